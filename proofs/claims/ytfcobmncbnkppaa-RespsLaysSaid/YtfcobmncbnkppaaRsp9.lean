/- RespsKnown: the walk. -/
import Derived.Test.YtfcobmncbnkppaaRsp8
namespace Go.Proofs.Ytfcobmncbnkppaa
open Go.RowKit
set_option linter.unusedVariables false
set_option linter.unusedSimpArgs false
set_option maxRecDepth 100000
set_option maxHeartbeats 3200000
theorem qSize9 : (Try.prog.info? 42).map (·.size) = some 8 := by kernel_rfl
def xq (g : Nat) : RqIV := { op := 10, has := true, id := [120], ids := ⟨some ⟨g, 0, none⟩, 1, 1⟩ }
theorem of0 {v : RsIV} {g : Nat} {i : Itm} (h : v.rq = ofP (xq g).rq 0 i) : v.status = 0 ∧ v.hasPay = true ∧ v.hasOp = true ∧ v.op = 10 ∧ v.id = [120] :=
  ⟨congrArg RsI.status h, congrArg RsI.hasPay h, congrArg RsI.hasOp h, congrArg RsI.op h, congrArg RsI.id h⟩
theorem of1 {v : RsIV} {g : Nat} {i : Itm} (h : v.rq = ofP (xq g).rq 1 i) : v.status = 1 ∧ v.reason = 1 ∧ v.hasPay = false ∧ v.pay.tag = 0 :=
  ⟨congrArg RsI.status h, congrArg RsI.reason h, congrArg RsI.hasPay h, by
    have h1 : v.pay.it = {} := congrArg RsI.pay h
    have h2 := congrArg Itm.tag h1
    rw [ItV.it_eq] at h2
    exact h2⟩
theorem undo0 {v : RsIV} {g : Nat} (h : v.rq = undoP (xq g).rq) : v.status = 3 ∧ v.reason = 0 := ⟨congrArg RsI.status h, congrArg RsI.reason h⟩
theorem w99 : wordS 99 = ⟨#[]⟩ := by kernel_rfl
theorem w256 : wordS 256 = ⟨#[71, 101, 110, 101, 114, 97, 108]⟩ := by kernel_rfl
theorem w0 : wordS 0 = ⟨#[70, 105, 110, 101]⟩ := by kernel_rfl
theorem qBuild3 (op : Int) (h : Bool) (s : Sl) (id : List UInt8) (w : World) : (Instr.build 42 #[(0, .int .i64 op), (1, .bool h), (2, .slice s.a s.n s.c)]).run Try.prog w = .ok (.agg (RqIV.arr { op := op, has := h, id := id, ids := s })) w := by kernel_rfl
theorem iBuild1 (a : Int) (w : World) : (Instr.build 27 #[(0, .int .i64 a)]).run Try.prog w = .ok (.agg (ItV.arr { tag := a })) w := by kernel_rfl
theorem iBuild2 (a b : Int) (w : World) : (Instr.build 27 #[(0, .int .i64 a), (1, .int .i64 b)]).run Try.prog w = .ok (.agg (ItV.arr { tag := a, typ := b })) w := by kernel_rfl
theorem respsKnown_walk (w : World) : Calls Try.prog 4 #[] w fun e w' => e = .returned (.bool true) ∧ Below w.heap.size w w' := by
  go_enter Try.func4, Try.ntmps4
  have B := hid (Below.refl w.heap.size w)
  obtain ⟨W, hW⟩ : ∃ W, W = w.alloc (.cells #[.int .u8 120] 5 (1, 2)) := ⟨_, rfl⟩
  have kc : (convert 24 24 (.slice (some ⟨w.heap.size, 0, none⟩) 1 1)).run Try.prog (w.alloc (.cells #[.int .u8 120] 5)) = .ok (.slice (some ⟨w.heap.size, 0, none⟩) 1 1) W := by rw [hW]; exact Lib.run_convert_bytes_const (P := Try.prog) w 24 5 #[.int .u8 120] 1 1 Try.underlying24 Try.underlying5
  have hbW : Below w.heap.size w W := by rw [hW]; exact (Below.refl _ w).alloc (Nat.le_refl _) _
  have SQ : Hid (SlC W (xq w.heap.size).ids ((xq w.heap.size).id.map B8)) := by
    show SlC W ⟨some ⟨w.heap.size, 0, none⟩, 1, 1⟩ [.int .u8 120]
    rw [hW]
    exact ⟨RdC.new w _ _ _ [.int .u8 120] rfl 1 rfl _ rfl, (fun h => by cases h), (by decide : (1 : Nat) ≤ 140737488355328), fun k hk => by simp [Sl.blk] at hk; subst hk; simp⟩
  clear hW
  clear B
  have B := hid hbW
  clear hbW
  have HPW1 : Hid (w.heap.size ≤ W.heap.size) := B.out.size
  go_upto_region 2 with (fail)
  have hbel : Below W.heap.size W (W.alloc (.cells #[.int .i64 10, .bool true, .slice (some ⟨w.heap.size, 0, none⟩) 1 1, .int .i64 0, .int .i64 0, .int .i64 0, .slice none 0 0, .slice none 0 0] 42)) := (Below.refl _ W).alloc (Nat.le_refl _) _
  have hblk := block_new W (.cells #[.int .i64 10, .bool true, .slice (some ⟨w.heap.size, 0, none⟩) 1 1, .int .i64 0, .int .i64 0, .int .i64 0, .slice none 0 0, .slice none 0 0] 42)
  generalize W.alloc (.cells #[.int .i64 10, .bool true, .slice (some ⟨w.heap.size, 0, none⟩) 1 1, .int .i64 0, .int .i64 0, .int .i64 0, .slice none 0 0, .slice none 0 0] 42) = w1 at *
  have B' := hid (grow_on B.out hbel)
  have SQ' := hid (SQ.out.below hbel)
  clear B SQ
  have B := B'
  have SQ := SQ'
  clear B' SQ'
  have HBK1 : Hid (w1.heap[W.heap.size]? = some (.cells (xq w.heap.size).arr 42 (0, 0))) := hblk
  clear hblk hbel
  generalize W.heap.size = p1 at *
  clear kc
  go_wp2_with (first | (refine wpList_load_row rfl 42 _ rfl p1 rfl _ _ _ _ HBK1.out Try.underlying42 rfl qSize9 ?_) | (refine wpList_build_obj rfl 27 _ rfl #[(0, .int .i64 4325500), (1, .int .i64 1)] rfl _ (iBuild2 4325500 1 _) ?_))
  refine (Of_any (xq w.heap.size) 0 ({ tag := 4325500, typ := 1 } : ItV) _ SQ.out (ItV.ok.zero _ _ _ _)).mono ?_
  rintro e w2 ⟨v2, rfl, hq, hqo, hb⟩
  have EQ2 := hid hq; have OQ2' := hid hqo
  have B' := hid (grow_on B.out hb)
  have SQ' := hid (SQ.out.below hb)
  have HBK1' := hid ((hb.block _ (block_lt HBK1.out)).trans HBK1.out)
  clear B SQ HBK1
  have B := B'
  have SQ := SQ'
  have HBK1 := HBK1'
  clear B' SQ' HBK1'
  have OQ2 := OQ2'
  clear OQ2' hq hqo hb
  have HPW3 : Hid (w.heap.size ≤ w2.heap.size) := B.out.size
  have HLT3_1 : Hid (p1 < w2.heap.size) := block_lt HBK1.out
  go_upto_region 3 with (first | (refine wpList_alloc_obj rfl 44 rfl _ sZero ?_) | (refine wpList_store_obj rfl 44 _ _ rfl w2.heap.size rfl v2.arr rfl _ _ (block_new w2 _) rfl sSize (sarr_one _) ?_; intro w3 hb hc hs; have HBK3 := hid hb; have HCK3 := hid hc; clear hb hc hs))
  have hbel : Below w2.heap.size w2 w3 := ((Below.refl _ w2).alloc (Nat.le_refl _) _).trans (HCK3.out.below (fun k hk => by rw [List.mem_singleton.1 hk]; exact Nat.le_refl _) (by simp))
  have B' := hid (grow_on B.out hbel)
  have SQ' := hid (SQ.out.below hbel)
  have HBK1' := hid ((hbel.block _ (block_lt HBK1.out)).trans HBK1.out)
  have OQ2' := hid (OQ2.out.below hbel)
  clear B SQ HBK1 OQ2
  have B := B'
  have SQ := SQ'
  have HBK1 := HBK1'
  have OQ2 := OQ2'
  clear B' SQ' HBK1' OQ2'
  clear HCK3 hbel
  generalize w2.heap.size = p3 at *
  go_wp2_with (first | (refine wpList_load_row rfl 42 _ rfl p1 rfl _ _ _ _ HBK1.out Try.underlying42 rfl qSize9 ?_) | (refine wpList_build_obj rfl 27 _ rfl #[(0, .int .i64 5)] rfl _ (iBuild1 5 _) ?_))
  refine (Of_any (xq w.heap.size) 1 ({ tag := 5 } : ItV) _ SQ.out (ItV.ok.zero _ _ _ _)).mono ?_
  rintro e w4 ⟨v4, rfl, hq, hqo, hb⟩
  have EQ4 := hid hq; have OQ4' := hid hqo
  have B' := hid (grow_on B.out hb)
  have SQ' := hid (SQ.out.below hb)
  have HBK1' := hid ((hb.block _ (block_lt HBK1.out)).trans HBK1.out)
  have OQ2' := hid (OQ2.out.below hb)
  have HBK3' := hid ((hb.block _ (block_lt HBK3.out)).trans HBK3.out)
  clear B SQ HBK1 OQ2 HBK3
  have B := B'
  have SQ := SQ'
  have HBK1 := HBK1'
  have OQ2 := OQ2'
  have HBK3 := HBK3'
  clear B' SQ' HBK1' OQ2' HBK3'
  have OQ4 := OQ4'
  clear OQ4' hq hqo hb
  have HPW5 : Hid (w.heap.size ≤ w4.heap.size) := B.out.size
  have HLT5_1 : Hid (p1 < w4.heap.size) := block_lt HBK1.out
  have HLT5_3 : Hid (p3 < w4.heap.size) := block_lt HBK3.out
  go_upto_region 4 with (first | (refine wpList_alloc_obj rfl 44 rfl _ sZero ?_) | (refine wpList_store_obj rfl 44 _ _ rfl w4.heap.size rfl v4.arr rfl _ _ (block_new w4 _) rfl sSize (sarr_one _) ?_; intro w5 hb hc hs; have HBK5 := hid hb; have HCK5 := hid hc; clear hb hc hs))
  have hbel : Below w4.heap.size w4 w5 := ((Below.refl _ w4).alloc (Nat.le_refl _) _).trans (HCK5.out.below (fun k hk => by rw [List.mem_singleton.1 hk]; exact Nat.le_refl _) (by simp))
  have B' := hid (grow_on B.out hbel)
  have SQ' := hid (SQ.out.below hbel)
  have HBK1' := hid ((hbel.block _ (block_lt HBK1.out)).trans HBK1.out)
  have OQ2' := hid (OQ2.out.below hbel)
  have HBK3' := hid ((hbel.block _ (block_lt HBK3.out)).trans HBK3.out)
  have OQ4' := hid (OQ4.out.below hbel)
  clear B SQ HBK1 OQ2 HBK3 OQ4
  have B := B'
  have SQ := SQ'
  have HBK1 := HBK1'
  have OQ2 := OQ2'
  have HBK3 := HBK3'
  have OQ4 := OQ4'
  clear B' SQ' HBK1' OQ2' HBK3' OQ4'
  clear HCK5 hbel
  generalize w4.heap.size = p5 at *
  clear OQ4
  go_wp2_with (refine wpList_load_row rfl 42 _ rfl p1 rfl _ _ _ _ HBK1.out Try.underlying42 rfl qSize9 ?_)
  refine (Undo_any (xq w.heap.size) _ SQ.out).mono ?_
  rintro e w6 ⟨v6, rfl, hq, hqo, hb⟩
  have EQ6 := hid hq
  have B' := hid (grow_on B.out hb)
  have SQ' := hid (SQ.out.below hb)
  have HBK1' := hid ((hb.block _ (block_lt HBK1.out)).trans HBK1.out)
  have OQ2' := hid (OQ2.out.below hb)
  have HBK3' := hid ((hb.block _ (block_lt HBK3.out)).trans HBK3.out)
  have HBK5' := hid ((hb.block _ (block_lt HBK5.out)).trans HBK5.out)
  clear B SQ HBK1 OQ2 HBK3 HBK5
  have B := B'
  have SQ := SQ'
  have HBK1 := HBK1'
  have OQ2 := OQ2'
  have HBK3 := HBK3'
  have HBK5 := HBK5'
  clear B' SQ' HBK1' OQ2' HBK3' HBK5'
  clear hq hqo hb
  have HPW7 : Hid (w.heap.size ≤ w6.heap.size) := B.out.size
  have HLT7_1 : Hid (p1 < w6.heap.size) := block_lt HBK1.out
  have HLT7_3 : Hid (p3 < w6.heap.size) := block_lt HBK3.out
  have HLT7_5 : Hid (p5 < w6.heap.size) := block_lt HBK5.out
  go_upto_region 5 with (first | (refine wpList_alloc_obj rfl 44 rfl _ sZero ?_) | (refine wpList_store_obj rfl 44 _ _ rfl w6.heap.size rfl v6.arr rfl _ _ (block_new w6 _) rfl sSize (sarr_one _) ?_; intro w7 hb hc hs; have HBK7 := hid hb; have HCK7 := hid hc; clear hb hc hs))
  have hbel : Below w6.heap.size w6 w7 := ((Below.refl _ w6).alloc (Nat.le_refl _) _).trans (HCK7.out.below (fun k hk => by rw [List.mem_singleton.1 hk]; exact Nat.le_refl _) (by simp))
  have B' := hid (grow_on B.out hbel)
  have SQ' := hid (SQ.out.below hbel)
  have HBK1' := hid ((hbel.block _ (block_lt HBK1.out)).trans HBK1.out)
  have OQ2' := hid (OQ2.out.below hbel)
  have HBK3' := hid ((hbel.block _ (block_lt HBK3.out)).trans HBK3.out)
  have HBK5' := hid ((hbel.block _ (block_lt HBK5.out)).trans HBK5.out)
  clear B SQ HBK1 OQ2 HBK3 HBK5
  have B := B'
  have SQ := SQ'
  have HBK1 := HBK1'
  have OQ2 := OQ2'
  have HBK3 := HBK3'
  have HBK5 := HBK5'
  clear B' SQ' HBK1' OQ2' HBK3' HBK5'
  clear HCK7 hbel
  generalize w6.heap.size = p7 at *
  clear SQ
  go_wp2_with fail
  refine (known17_any _).mono ?_
  rintro e w8 ⟨rfl, hb⟩
  have B' := hid (grow_on B.out hb)
  have HBK1' := hid ((hb.block _ (block_lt HBK1.out)).trans HBK1.out)
  have OQ2' := hid (OQ2.out.below hb)
  have HBK3' := hid ((hb.block _ (block_lt HBK3.out)).trans HBK3.out)
  have HBK5' := hid ((hb.block _ (block_lt HBK5.out)).trans HBK5.out)
  have HBK7' := hid ((hb.block _ (block_lt HBK7.out)).trans HBK7.out)
  clear B HBK1 OQ2 HBK3 HBK5 HBK7
  have B := B'
  have HBK1 := HBK1'
  have OQ2 := OQ2'
  have HBK3 := HBK3'
  have HBK5 := HBK5'
  have HBK7 := HBK7'
  clear B' HBK1' OQ2' HBK3' HBK5' HBK7'
  clear hb
  obtain ⟨a0, a1, a2, a3, a4⟩ := of0 EQ2.out
  obtain ⟨b0, b1, b2, b3⟩ := of1 EQ4.out
  obtain ⟨c0, c1⟩ := undo0 EQ6.out
  have hids := OQ2.out.ids.rdB
  rw [a4] at hids
  have hcv := run_bytes_str (P := Try.prog) hids v2.ids.c 24 9 5 Try.underlying24 Try.underlying5 Try.underlying9
  have d0 := cell_of_block (j := 0) HBK3.out (rx0 _)
  have d1 := cell_of_block (j := 1) HBK3.out (rx1 _)
  have d3 := cell_of_block (j := 3) HBK3.out (rx3 _)
  have d4 := cell_of_block (j := 4) HBK3.out (rx4 _)
  have d12 := cell_of_block (j := 12) HBK3.out (rx12 _)
  rw [a0] at d4; rw [a1] at d12; rw [a2] at d1; rw [a3] at d0
  have f4 := cell_of_block (j := 4) HBK5.out (rx4 _)
  have f5 := cell_of_block (j := 5) HBK5.out (rx5 _)
  have f7 := cell_of_block (j := 7) HBK5.out (rx7 _)
  have f12 := cell_of_block (j := 12) HBK5.out (rx12 _)
  rw [b0] at f4; rw [b1] at f5; rw [b2] at f12; rw [b3] at f7
  have g4 := cell_of_block (j := 4) HBK7.out (rx4 _)
  have g5 := cell_of_block (j := 5) HBK7.out (rx5 _)
  rw [c0] at g4; rw [c1] at g5
  clear a0 a1 a2 a3 a4 b0 b1 b2 b3 c0 c1 hids
  clear HBK1 OQ2 HBK3 HBK5 HBK7
  clear EQ2
  clear EQ4
  clear EQ6
  go_wp2_with fail
  refine (word_any 99 _).mono ?_
  rintro e u9 ⟨rfl, rfl⟩
  rw [w99]
  go_wp2_with fail
  refine (word_any 256 _).mono ?_
  rintro e u10 ⟨rfl, rfl⟩
  rw [w256]
  go_wp2_with fail
  refine (word_any 0 _).mono ?_
  rintro e u11 ⟨rfl, rfl⟩
  rw [w0]
  go_wp2_with fail
  go_ret
  exact ⟨rfl, B.out⟩
end Go.Proofs.Ytfcobmncbnkppaa
