/- disk: New, Pending. -/
import Derived.Test.YtipkeifpkemcdaaDisk3
namespace Go.Proofs.Ytipkeifpkemcdaa
open Go.RowKit
set_option linter.unusedVariables false
set_option linter.unusedSimpArgs false
set_option maxRecDepth 100000
set_option maxHeartbeats 1000000

theorem below_drew {B : Nat} {a w : World} (h : Below B a w) : Below B a w.drew := ⟨h.os, h.tape, h.output, h.size, h.block⟩
/-- A disk that is being made: k sectors lie. -/
structure Mk (w : World) (B p k : Nat) (aS : Option Addr) (cS : Nat) (xs : List (Value × Value)) (D : List Nat) : Prop where
  lenS : xs.length = k
  blk : w.heap[p]? = some (.cells #[.slice aS k cS, .slice none 0 0, .int .i64 (-1), .bool false, .int .i64 0] 85 (0, 0))
  rowS : w.ownsRow (B + 1) 87 2 (.slice aS k cS) k (pairs xs)
  secs : All2 (SecR w D) xs (List.replicate k (zeros, false))
  pB : p = B
  dd : ∀ q ∈ D, B < q ∧ (∀ g, (Value.slice aS k cS).ownBlock = some g → q ≠ g) ∧ q < w.heap.size
theorem Mk.more {w w1 w2 : World} {B p k : Nat} {aS a' : Option Addr} {cS c' : Nat} {xs : List (Value × Value)} {D : List Nat} {a n c : _} (h : Mk w B p k aS cS xs D) (hb : Below w.heap.size w w1) (hv : Dat w1 [w.heap.size] (.slice a n c) zeros) (h1 : w.heap.size < w1.heap.size)
    (ho : w2.ownsRow (B + 1) 87 2 (.slice a' (k + 1) c') (k + 1) (pairs xs ++ [.slice a n c, .bool false])) (hg : w1.grownBy w2 (Value.slice aS k cS).ownBlock)
    (hn : (Value.slice a' (k + 1) c').ownBlock = (Value.slice aS k cS).ownBlock ∨ ∀ q, (Value.slice a' (k + 1) c').ownBlock = some q → w1.heap.size ≤ q) :
    Mk (w2.setCell ⟨p, 0, none⟩ (.slice a' (k + 1) c')) B p (k + 1) a' c' (xs ++ [(.slice a n c, .bool false)]) (D ++ [w.heap.size]) ∧ Chg [p] w2 (w2.setCell ⟨p, 0, none⟩ (.slice a' (k + 1) c')) := by
  have hp : p < w.heap.size := block_lt h.blk
  have hs2 := hg.size
  have hq : ∀ q, (Value.slice aS k cS).ownBlock = some q → B < q ∧ q < w.heap.size := fun q hq => by have := h.rowS.lt q hq; omega
  have hpB := h.pB
  have hne : ∀ g, (Value.slice a' (k + 1) c').ownBlock = some g → g ≠ p ∧ g ∉ D ∧ g ≠ w.heap.size := by
    intro g hgo
    rcases hn with e | e
    · rw [e] at hgo
      have := hq g hgo
      exact ⟨by omega, fun hm => (h.dd g hm).2.1 g hgo rfl, by omega⟩
    · have hge := e g hgo
      exact ⟨by omega, fun hm => by have := (h.dd g hm).2.2; omega, by omega⟩
  have hblk : w2.heap[p]? = _ := grown_new h.blk hb hg (fun g hgo => by have := hq g hgo; omega)
  have c2 : Chg (Value.slice aS k cS).ownBlock.toList w w2 := (Chg.of_below hb _).grown hg (fun q hq' => .inl (by simp [hq']))
  have c2' : Chg (Value.slice aS k cS).ownBlock.toList w1 w2 := (Chg.refl _ w1).grown hg (fun q hq' => .inl (by simp [hq']))
  have c3 : Chg [p] w2 (w2.setCell ⟨p, 0, none⟩ (.slice a' (k + 1) c')) := (Chg.refl [p] w2).setCell (.inl (by simp)) _
  have hDq : Disj D (Value.slice aS k cS).ownBlock.toList := fun q hq1 hq2 => (h.dd q hq1).2.1 q (mem_own.1 hq2) rfl
  have hDp : Disj D [p] := fun q hq1 hq2 => by have := (h.dd q hq1).1; have := List.mem_singleton.1 hq2; omega
  have hD1q : Disj [w.heap.size] (Value.slice aS k cS).ownBlock.toList := fun q hq1 hq2 => by have := List.mem_singleton.1 hq1; have := hq q (mem_own.1 hq2); omega
  have hD1p : Disj [w.heap.size] [p] := fun q hq1 hq2 => by have := List.mem_singleton.1 hq1; have := List.mem_singleton.1 hq2; omega
  refine ⟨⟨by simp [h.lenS], ?_, ?_, ?_, h.pB, ?_⟩, c3⟩
  · have := block_setCell (j := 0) hblk (.slice a' (k + 1) c')
    simpa using this
  · have ho' := c3.owns ho (fun q hq1 hq2 => (hne q hq1).1 (List.mem_singleton.1 hq2))
    rw [pairs_append]
    exact ho'
  · rw [List.replicate_succ']
    refine All2.snoc (h.secs.mono fun x y _ _ hx => ⟨?_, hx.2⟩) ⟨?_, rfl⟩
    · exact ((hx.1.keep c2 hDq).keep c3 hDp).more (fun q hq => List.mem_append_left _ hq)
    · exact ((hv.keep c2' hD1q).keep c3 hD1p).more (fun q hq => List.mem_append_right _ hq)
  · intro q hq'
    rcases List.mem_append.1 hq' with hq1 | hq1
    · obtain ⟨a, b, e⟩ := h.dd q hq1
      exact ⟨a, fun g hgo e' => (hne g hgo).2.1 (e' ▸ hq1), by have := c2.size; simp [World.setCell]; omega⟩
    · have h1' := List.mem_singleton.1 hq1
      exact ⟨by omega, fun g hgo e' => (hne g hgo).2.2 (e' ▸ h1'), by simp [World.setCell]; omega⟩

theorem new_bad (z : Int) (w : World) (h : z < 8 ∨ 4096 < z) :
    Calls Try.prog 18 #[.int .i64 z] w fun e w' => e = .returned (.tuple #[.pointer none, .int .i64 1]) ∧ w = w' := by
  rcases h with h | h
  · go_enter Try.func18, Try.ntmps18
    go_wp2_with fail
    all_goals (go_ret2; exact ⟨rfl, rfl⟩)
  · have h8 : ¬ z < 8 := by omega
    go_enter Try.func18, Try.ntmps18
    go_wp2_with fail
    all_goals (go_ret2; exact ⟨rfl, rfl⟩)

theorem new_any (n : Nat) (w : World) (h0 : 8 ≤ n) (h1 : n ≤ 4096) :
    Calls Try.prog 18 #[.int .i64 n] w fun e w' => ∃ F, e = .returned (.tuple #[.pointer (some ⟨w.heap.size, 0, none⟩), .int .i64 0]) ∧ Dk w' w.heap.size (DSt.new n) F ∧ Below w.heap.size w w' ∧ ∀ q ∈ F, w.heap.size ≤ q := by
  obtain ⟨i, hi, hz0, hz1, hz2⟩ := info_parts dInfoB
  obtain ⟨is, his, hs0, hs1, hs2⟩ := info_parts dInfoS
  obtain ⟨C, hC, hmk⟩ : ∃ C, C = (zeros.map B8).toArray ∧ ∀ w : World, (Instr.makeSlice 24 (.int .i64 64) (.int .i64 64)).run Try.prog w = .ok (.slice (some ⟨w.heap.size, 0, none⟩) 64 64) (w.alloc (.cells C 5)) :=
    ⟨_, by rw [hz1]; exact Array.toList_inj.1 ((made_bytes 64).trans rfl), fun w => run_make (P := Try.prog) w 24 5 i (.int .u8 0) Try.underlying24 hi hz0 .i64 .i64 64 64 (by omega) (by omega) (by rw [hz2]; omega) (by omega)⟩
  have HC := hid hC; clear hC
  go_enter Try.func18, Try.ntmps18
  go_wp2_with fail
  go_loopw [14] (fun x wr => ∃ (k : Nat) (aS : Option Addr) (cS : Nat) (xs : List (Value × Value)) (D : List Nat), k ≤ n ∧ x = .int .i64 k ∧ Mk wr w.heap.size w.heap.size k aS cS xs D ∧ Below w.heap.size w wr) (fun x _ => n - (intOf x).toNat)
  case atStart =>
    refine ⟨0, none, 0, [], [], Nat.zero_le _, rfl, ⟨rfl, block_new w _, World.ownsRow_nil _ _ _ _, All2.nil, rfl, fun q hq => by cases hq⟩, (Below.refl _ _).alloc (Nat.le_refl _) _⟩
  case round =>
    obtain ⟨k, aS, cS, xs, D, hk, rfl, hm, hb⟩ := hrel
    by_cases hlt : k < n
    · have c0 := cell_of_block (j := 0) hm.blk rfl
      have c0' := fun o => cell_alloc c0 o
      have c0'' := fun o o' => cell_alloc (c0' o) o'
      have hsz : ∀ o o', w.heap.size + 1 ≤ ((wr.alloc o).alloc o').drew.heap.size := by
        intro o o'
        have h1 := block_lt hm.blk
        have h2 : ((wr.alloc o).alloc o').drew.heap.size = ((wr.alloc o).alloc o').heap.size := rfl
        rw [h2]; simp; omega
      have how : ∀ o o', ((wr.alloc o).alloc o').drew.ownsRow (w.heap.size + 1) 87 2 (.slice aS k cS) k (pairs xs) := fun o o' => (((Chg.refl [] wr).alloc o).alloc o').drew.owns hm.rowS (fun q hq hm => by cases hm)
      have hrc : RdC ((wr.alloc (.cells C 5 (0, 0))).alloc (.cells #[.slice (some ⟨wr.heap.size, 0, none⟩) 64 64, .bool false] 87 (0, 0))).drew (some ⟨wr.heap.size + 1, 0, none⟩) (1 * 2) [.slice (some ⟨wr.heap.size, 0, none⟩) 64 64, .bool false] := RdC.drew (RdC.new _ _ _ _ _ rfl _ rfl _ (by simp))
      have hone : ∀ u ∈ [Value.slice (some ⟨wr.heap.size, 0, none⟩) 64 64, Value.bool false], u.oneCell' = true := by intro u hu; simp at hu; rcases hu with rfl | rfl <;> rfl
      have hm63 : k + 1 ≤ maxLen := by unfold maxLen; omega
      have hby : (k + 1) * 32 ≤ 140737488355328 := by omega
      have HONE := hid hone; have HM63 := hid hm63; have HBY := hid hby; clear hone hm63 hby
      have HSZ := hid hsz; have HOW := hid how; have HRC := hid hrc
      have HM := hid hm; have HB := hid hb
      clear hm hb hsz how hrc
      go_wp2_with fail
      go_region_law (
          (refine step_append_c rfl _ _ 82 rfl (w.heap.size + 1) 87 is _ 2 32 Try.underlying82 his hs0 hs1 hs2 rfl (by decide) (.slice aS k cS) k _ rfl (HOW.out _ _) _ 1 _ [.slice (some ⟨wr.heap.size, 0, none⟩) 64 64, .bool false] rfl (HRC.out) (HONE.out) (fun h => by cases h) HM63.out HBY.out (HSZ.out _ _) ?_
           intro a' c' w' ho hg hn
           have hB3 := (((Below.refl wr.heap.size wr).alloc (Nat.le_refl _) (.cells C 5 (0, 0))).alloc (by simp) (.cells #[.slice (some ⟨wr.heap.size, 0, none⟩) 64 64, .bool false] 87 (0, 0)))
           have hB3 := below_drew hB3
           have hblk3 := grown_new HM.out.blk hB3 hg (fun g hgo => by have := HM.out.rowS.lt g hgo; omega)
           have hc3 := cell_of_block (j := 0) hblk3 rfl
           have hz3 := frozen_of_block (j := 0) hblk3
           have HO := hid ho; have HG := hid hg; have HNN := hid hn; have HB3 := hid hB3
           clear ho hg hn hB3 hblk3))
      all_goals
        try go_wp2_with fail
        go_roundw
        case rel =>
          have hv : Dat (((wr.alloc (.cells C 5 (0, 0))).alloc (.cells #[.slice (some ⟨wr.heap.size, 0, none⟩) 64 64, .bool false] 87 (0, 0))).drew) [wr.heap.size] (.slice (some ⟨wr.heap.size, 0, none⟩) 64 64) zeros :=
            ⟨_, 64, 64, rfl, ((RdB.new wr zeros C 5 (0, 0) HC.out 64 (by simp [zeros]) _ rfl).below ((Below.refl _ _).alloc (Nat.le_refl _) _)).drew, Nat.le_refl _, (fun h => by cases h), by omega, (fun b off sp h => by cases h; simp)⟩
          obtain ⟨h1, h2⟩ := HM.out.more HB3.out hv (by show _ < (World.alloc _ _).heap.size; simp; omega) HO.out HG.out HNN.out
          refine ⟨k + 1, _, _, _, _, by omega, by go_num, h1, ?_⟩
          have h3 : Below w.heap.size w _ := HB.out.trans (HB3.out.mono HB.out.size)
          exact (h3.grown HG.out h3.size (fun q hq => by have := HM.out.rowS.lt q hq; omega)).setCell (Nat.le_refl _) _
        case measure => simp [intOf]; omega
    · obtain rfl : k = n := by omega
      have HM := hid hm; have HB := hid hb
      clear hm hb
      go_wp2_with fail
      go_ret2
      obtain ⟨g, rfl, _, _⟩ := (own_slice HM.out.rowS).2.2 (by omega)
      have hg := HM.out.rowS.lt g rfl
      refine ⟨foot w.heap.size g (.slice none 0 0) D, rfl, ⟨g, k, cS, none, 0, 0, xs, [], D, ⟨HM.out.lenS, rfl, HM.out.blk, ownsRow_base HM.out.rowS (fun _ _ => Nat.zero_le _), World.ownsRow_nil _ _ _ _, HM.out.secs, All2.nil, by omega, fun g hg => by simp [Value.ownBlock] at hg, fun q hq => ?_, by simp [DSt.new], h1⟩, rfl⟩, HB.out, ?_⟩
      · obtain ⟨h2, h3, h4⟩ := HM.out.dd q hq
        exact ⟨by omega, h3 g rfl, (fun g hg => by simp [Value.ownBlock] at hg), h4⟩
      · intro q hq
        simp only [foot, Value.ownBlock, Option.toList, List.mem_cons, List.mem_append, List.nil_append] at hq
        rcases hq with rfl | rfl | hq
        · exact Nat.le_refl _
        · omega
        · have := (HM.out.dd q hq).1; omega
end Go.Proofs.Ytipkeifpkemcdaa
