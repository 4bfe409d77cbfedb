/- TtlvKnown's walk. -/
import Derived.Test.YtmpajhacigjloaaDoorTtlL
import Derived.Test.YtmpajhacigjloaaDoorTtlS
import Derived.Test.YtmpajhacigjloaaDoorTtlG
namespace Go.Proofs.YtmpajhacigjloaaDoor
open Go.RowKit
set_option linter.unusedVariables false
set_option linter.unusedSimpArgs false
set_option maxRecDepth 1000000
set_option maxHeartbeats 3200000
def nest6 : Nat → Itm
  | 0 => ⟨4325377, 1, 0, [], []⟩
  | n + 1 => ⟨4325377, 1, 0, [], [nest6 n]⟩
theorem nest12 : rightI (nest6 12) = false := by decide +kernel
theorem nest11 : rightI (nest6 11) = true ∧ (nest6 11).enc.length = 96 := by decide +kernel
theorem knZ (n : Nat) (l : List UInt8) (h : l.length = 8193) : (decP l).2 = 6 := by unfold decP; rw [if_pos (by omega)]
theorem kn0 : (decP [66, 0, 32, 2, 0, 0, 0]).2 = 7 := by decide +kernel
theorem kn1 : (decP [67, 0, 32, 2, 0, 0, 0, 4, 0, 0, 0, 0, 0, 0, 0, 0]).2 = 5 := by decide +kernel
theorem kn2 : (decP [66, 0, 32, 2, 0, 0, 0, 8, 0, 0, 0, 0, 0, 0, 0, 0]).2 = 5 := by decide +kernel
theorem kn3 : (decP [66, 0, 32, 2, 0, 0, 0, 4, 0, 0, 0, 0, 0, 0, 0, 1]).2 = 11 := by decide +kernel
theorem kn4 : (decP [66, 0, 32, 7, 0, 0, 0, 1, 255, 0, 0, 0, 0, 0, 0, 0]).2 = 5 := by decide +kernel
theorem kn5 : (decP [66, 0, 32, 8, 0, 0, 0, 1, 255, 0, 0, 0, 0, 0, 0]).2 = 7 := by decide +kernel
theorem kn6 : (decP [66, 0, 32, 1, 0, 0, 0, 0, 0]).2 = 5 := by decide +kernel
theorem GB.new (w : World) (l : List UInt8) (C : Array Value) (hC : C = (l.map B8).toArray) (n : Nat) (hn : l.length = n) (h9 : n ≤ 140737488355328) : GB (w.alloc (.cells C 5)) (some ⟨w.heap.size, 0, none⟩) n n l :=
  ⟨RdB.new w l C 5 (0, 0) hC n hn _ rfl, (fun h => by cases h), Nat.le_refl _, (fun q off sp e => by cases e; simp), h9⟩
theorem SlR.blockK {w : World} {q n : Nat} {C : Array Value} {T : TypeId} {xs : List Value} (h : w.heap[q]? = some (.cells C T (0, 0))) (hC : C.toList = xs) (hn : xs.length = n * 5) (h9 : n ≤ 1099511627776) : SlR w ⟨some ⟨q, 0, none⟩, n, n⟩ 5 xs := by
  subst hC
  have hr := RdC.of_block h
  refine ⟨?_, by simp, h9, fun k hk => by simp [Sl.blk] at hk; rw [hk]; exact block_lt h, Nat.le_refl _⟩
  have : C.size = n * 5 := by simpa using hn
  rw [← this]; exact hr
def nsV (v : ItV) (s : Sl) : ItV := { tag := 4325377, typ := 1, ks := s, kids := [v] }
theorem iBuildN (v : ItV) (a : Option Addr) (n c : Nat) (w : World) : (Instr.build 29 #[(0, .int .i64 4325377), (1, .int .i64 1), (4, .slice a n c)]).run Tryd.prog w = .ok (.agg (nsV v ⟨a, n, c⟩).arr) w := by kernel_rfl
theorem iBuild40 (w : World) : (Instr.build 29 #[(0, .int .i64 4325377), (1, .int .i64 1)]).run Tryd.prog w = .ok (.agg (ItV.arr { tag := 4325377, typ := 1 })) w := by kernel_rfl
theorem iBuildA (w : World) : (Instr.build 29 #[(0, .int .i64 1)]).run Tryd.prog w = .ok (.agg (ItV.arr { tag := 1 })) w := by kernel_rfl
theorem iBuildB (z : Int) (w : World) : (Instr.build 29 #[(0, .int .i64 2), (2, .int .i64 z)]).run Tryd.prog w = .ok (.agg (ItV.arr { tag := 2, int := z })) w := by kernel_rfl
def kdV (s : Sl) : ItV := { typ := 1, ks := s, kids := [{ tag := 1 }, { tag := 2, int := 3 }, { tag := 2, int := 4 }] }
theorem iBuildC (a : Option Addr) (n c : Nat) (w : World) : (Instr.build 29 #[(1, .int .i64 1), (4, .slice a n c)]).run Tryd.prog w = .ok (.agg (kdV ⟨a, n, c⟩).arr) w := by kernel_rfl
def k3C : Array Value := ItV.arr { tag := 1 } ++ ItV.arr { tag := 2, int := 3 } ++ ItV.arr { tag := 2, int := 4 }
theorem k3fill : Instr.fill (fun i => some (i * 5, 5)) ((Array.range (3 * 5)).map (itZ.arr[· % itZ.arr.size]!)) [(0, Value.agg (ItV.arr { tag := 1 })), (1, Value.agg (ItV.arr { tag := 2, int := 3 })), (2, Value.agg (ItV.arr { tag := 2, int := 4 }))] = some k3C := by kernel_rfl
theorem wpList_build_three {ops : Array Oper} {rest : List Oper} {o : Oper} {a : Act} {w : World} {Q : Exit → Act → World → Prop} (hg : o.guard = none) (T E : TypeId) (x y z : Operand) (ho : o.op = .buildSlice T 3 #[(0, x), (1, y), (2, z)]) (hx : a.eval x = .agg (ItV.arr { tag := 1 })) (hy : a.eval y = .agg (ItV.arr { tag := 2, int := 3 })) (hz' : a.eval z = .agg (ItV.arr { tag := 2, int := 4 }))
    (i : TypeInfo) (hu : Tryd.prog.underlying T = some (.slice E)) (hi : Tryd.prog.info? E = some i) (hz : i.zero = some (.agg itZ.arr)) (hs : i.size = 5)
    (h : wpList Tryd.prog ops Q rest (a.put o.dst (.slice (some ⟨w.heap.size, 0, none⟩) 3 3)) (w.alloc (.cells k3C E))) : wpList Tryd.prog ops Q (o :: rest) a w := by
  refine wpList_plain hg fun K hK => wp_buildSlice T E 3 _ ho k3C i _ hu hi hz (by rw [hs]; decide) (by rw [hs]; decide) ?_ (hK _ _ h)
  rw [hs, show ((#[(0, x), (1, y), (2, z)] : Array (Nat × Operand)).map fun (i, x) => (i, a.eval x)).toList = [(0, Value.agg (ItV.arr { tag := 1 })), (1, Value.agg (ItV.arr { tag := 2, int := 3 })), (2, Value.agg (ItV.arr { tag := 2, int := 4 }))] from by simp [hx, hy, hz']]
  exact k3fill
structure NsSt (w : World) (bi : Nat) (y : Value) (wr : World) : Prop where
  ex : ∃ (k : Nat) (v : ItV), k ≤ 12 ∧ y = .int .i64 k ∧ v.it = nest6 k ∧ v.ok wr ∧ (∀ q ∈ v.foot, bi < q) ∧ wr.heap[bi]? = some (.cells v.arr 29 (0, 0)) ∧ Below w.heap.size w wr
theorem ttlvKnown_walk (w : World) (hT : UT w) : Calls Tryd.prog 6 #[] w fun e w' => e = .returned (.bool true) ∧ Below w.heap.size w w' := by
  have HT := hid hT
  clear hT
  obtain ⟨i, hi, hz0, hz1, hz2⟩ := info_parts infoB
  obtain ⟨j, ji, jz0, jz1, jz2⟩ := info_parts iInfo
  go_enter Tryd.func6, Tryd.ntmps6
  go_wp2_with (at_make; go_must (refine wpList_make_full _ rfl _ _ 23 rfl 0 5 i _ 1 Tryd.underlying23 hi hz0 hz1 .i64 .i64 _ _ 8193 rfl rfl rfl rfl (by rw [hz2]; omega) (by unfold maxLen; omega) (Nat.zero_le _) ?_); intro w1 hown hg; rw [made_bytes] at hown; have HOW := hid hown; have HGW := hid hg; clear hown hg)
  have HB0 := hid ((Below.refl w.heap.size w).grown HGW.out (Nat.le_refl _) (by intro q hq; cases hq))
  obtain ⟨ZL, hZL⟩ : ∃ ZL, ZL = List.replicate 8193 (0 : UInt8) := ⟨_, rfl⟩
  rw [← hZL] at HOW
  have hzl : ZL.length = 8193 := by rw [hZL]; exact List.length_replicate
  have HZL := hid hzl
  clear hzl hZL HGW
  refine (Decode_any _ 8193 _ ZL _ (GB.of_own HOW.out (by decide)) (HT.out.below HB0.out)).mono ?_
  rintro e wz ⟨hb, vz, rfl, _, _, _⟩
  dsimp only
  rw [knZ 0 ZL HZL.out]
  have HB1 := hid (HB0.out.trans (Below.mono hb HB0.out.size))
  clear hb HB0 HOW
  go_upto_region 2 with (first | (refine wpList_alloc_obj rfl 29 rfl _ iZero ?_) | (refine wpList_store_obj rfl 29 _ _ rfl wz.heap.size rfl _ rfl _ _ (block_new wz _) rfl iSize (arr_one vz) ?_; intro wy hb5 hc5 hs5; have KB := hid hb5; have HC5 := hid hc5; clear hb5 hc5 hs5))
  have hbel : Below wz.heap.size wz wy := ((Below.refl _ wz).alloc (Nat.le_refl _) _).trans (HC5.out.below (fun k hk => by rw [List.mem_singleton.1 hk]; exact Nat.le_refl _) (by simp))
  have HB := hid (HB1.out.trans (Below.mono hbel HB1.out.size))
  clear hbel HC5 HB1 KB HZL
  go_simp
  go_wp2_with (refine wpList_buildSlice rfl 23 5 7 _ rfl #[.int .u8 66, .int .u8 0, .int .u8 32, .int .u8 2, .int .u8 0, .int .u8 0, .int .u8 0] i _ Tryd.underlying23 hi hz0 (by rw [hz1]; decide) (by rw [hz1]; decide) (by rw [hz1]; kernel_rfl) ?_)
  refine (Decode_any _ 7 7 [66, 0, 32, 2, 0, 0, 0] _ (GB.new wy _ _ rfl 7 rfl (by decide)) (HT.out.below (HB.out.trans (Below.mono ((Below.refl _ _).alloc (Nat.le_refl _) _) HB.out.size)))).mono ?_
  rintro e wa0 ⟨hb, v0, rfl, _, _, _⟩
  dsimp only
  rw [kn0]
  have HB1 := hid (HB.out.trans (Below.mono (((Below.refl _ _).alloc (Nat.le_refl _) _).trans (hb.mono (by simp))) HB.out.size))
  clear hb HB
  go_upto_region 3 with (first | (refine wpList_alloc_obj rfl 29 rfl _ iZero ?_) | (refine wpList_store_obj rfl 29 _ _ rfl wa0.heap.size rfl _ rfl _ _ (block_new wa0 _) rfl iSize (arr_one v0) ?_; intro wb0 hb5 hc5 hs5; have KB := hid hb5; have HC5 := hid hc5; clear hb5 hc5 hs5))
  have hbel : Below wa0.heap.size wa0 wb0 := ((Below.refl _ wa0).alloc (Nat.le_refl _) _).trans (HC5.out.below (fun k hk => by rw [List.mem_singleton.1 hk]; exact Nat.le_refl _) (by simp))
  have HB := hid (HB1.out.trans (Below.mono hbel HB1.out.size))
  clear hbel HC5 HB1 KB
  go_simp
  go_wp2_with (refine wpList_buildSlice rfl 23 5 16 _ rfl #[.int .u8 67, .int .u8 0, .int .u8 32, .int .u8 2, .int .u8 0, .int .u8 0, .int .u8 0, .int .u8 4, .int .u8 0, .int .u8 0, .int .u8 0, .int .u8 0, .int .u8 0, .int .u8 0, .int .u8 0, .int .u8 0] i _ Tryd.underlying23 hi hz0 (by rw [hz1]; decide) (by rw [hz1]; decide) (by rw [hz1]; kernel_rfl) ?_)
  refine (Decode_any _ 16 16 [67, 0, 32, 2, 0, 0, 0, 4, 0, 0, 0, 0, 0, 0, 0, 0] _ (GB.new wb0 _ _ rfl 16 rfl (by decide)) (HT.out.below (HB.out.trans (Below.mono ((Below.refl _ _).alloc (Nat.le_refl _) _) HB.out.size)))).mono ?_
  rintro e wa1 ⟨hb, v1, rfl, _, _, _⟩
  dsimp only
  rw [kn1]
  have HB1 := hid (HB.out.trans (Below.mono (((Below.refl _ _).alloc (Nat.le_refl _) _).trans (hb.mono (by simp))) HB.out.size))
  clear hb HB
  go_upto_region 4 with (first | (refine wpList_alloc_obj rfl 29 rfl _ iZero ?_) | (refine wpList_store_obj rfl 29 _ _ rfl wa1.heap.size rfl _ rfl _ _ (block_new wa1 _) rfl iSize (arr_one v1) ?_; intro wb1 hb5 hc5 hs5; have KB := hid hb5; have HC5 := hid hc5; clear hb5 hc5 hs5))
  have hbel : Below wa1.heap.size wa1 wb1 := ((Below.refl _ wa1).alloc (Nat.le_refl _) _).trans (HC5.out.below (fun k hk => by rw [List.mem_singleton.1 hk]; exact Nat.le_refl _) (by simp))
  have HB := hid (HB1.out.trans (Below.mono hbel HB1.out.size))
  clear hbel HC5 HB1 KB
  go_simp
  go_wp2_with (refine wpList_buildSlice rfl 23 5 16 _ rfl #[.int .u8 66, .int .u8 0, .int .u8 32, .int .u8 2, .int .u8 0, .int .u8 0, .int .u8 0, .int .u8 8, .int .u8 0, .int .u8 0, .int .u8 0, .int .u8 0, .int .u8 0, .int .u8 0, .int .u8 0, .int .u8 0] i _ Tryd.underlying23 hi hz0 (by rw [hz1]; decide) (by rw [hz1]; decide) (by rw [hz1]; kernel_rfl) ?_)
  refine (Decode_any _ 16 16 [66, 0, 32, 2, 0, 0, 0, 8, 0, 0, 0, 0, 0, 0, 0, 0] _ (GB.new wb1 _ _ rfl 16 rfl (by decide)) (HT.out.below (HB.out.trans (Below.mono ((Below.refl _ _).alloc (Nat.le_refl _) _) HB.out.size)))).mono ?_
  rintro e wa2 ⟨hb, v2, rfl, _, _, _⟩
  dsimp only
  rw [kn2]
  have HB1 := hid (HB.out.trans (Below.mono (((Below.refl _ _).alloc (Nat.le_refl _) _).trans (hb.mono (by simp))) HB.out.size))
  clear hb HB
  go_upto_region 5 with (first | (refine wpList_alloc_obj rfl 29 rfl _ iZero ?_) | (refine wpList_store_obj rfl 29 _ _ rfl wa2.heap.size rfl _ rfl _ _ (block_new wa2 _) rfl iSize (arr_one v2) ?_; intro wb2 hb5 hc5 hs5; have KB := hid hb5; have HC5 := hid hc5; clear hb5 hc5 hs5))
  have hbel : Below wa2.heap.size wa2 wb2 := ((Below.refl _ wa2).alloc (Nat.le_refl _) _).trans (HC5.out.below (fun k hk => by rw [List.mem_singleton.1 hk]; exact Nat.le_refl _) (by simp))
  have HB := hid (HB1.out.trans (Below.mono hbel HB1.out.size))
  clear hbel HC5 HB1 KB
  go_simp
  go_wp2_with (refine wpList_buildSlice rfl 23 5 16 _ rfl #[.int .u8 66, .int .u8 0, .int .u8 32, .int .u8 2, .int .u8 0, .int .u8 0, .int .u8 0, .int .u8 4, .int .u8 0, .int .u8 0, .int .u8 0, .int .u8 0, .int .u8 0, .int .u8 0, .int .u8 0, .int .u8 1] i _ Tryd.underlying23 hi hz0 (by rw [hz1]; decide) (by rw [hz1]; decide) (by rw [hz1]; kernel_rfl) ?_)
  refine (Decode_any _ 16 16 [66, 0, 32, 2, 0, 0, 0, 4, 0, 0, 0, 0, 0, 0, 0, 1] _ (GB.new wb2 _ _ rfl 16 rfl (by decide)) (HT.out.below (HB.out.trans (Below.mono ((Below.refl _ _).alloc (Nat.le_refl _) _) HB.out.size)))).mono ?_
  rintro e wa3 ⟨hb, v3, rfl, _, _, _⟩
  dsimp only
  rw [kn3]
  have HB1 := hid (HB.out.trans (Below.mono (((Below.refl _ _).alloc (Nat.le_refl _) _).trans (hb.mono (by simp))) HB.out.size))
  clear hb HB
  go_upto_region 6 with (first | (refine wpList_alloc_obj rfl 29 rfl _ iZero ?_) | (refine wpList_store_obj rfl 29 _ _ rfl wa3.heap.size rfl _ rfl _ _ (block_new wa3 _) rfl iSize (arr_one v3) ?_; intro wb3 hb5 hc5 hs5; have KB := hid hb5; have HC5 := hid hc5; clear hb5 hc5 hs5))
  have hbel : Below wa3.heap.size wa3 wb3 := ((Below.refl _ wa3).alloc (Nat.le_refl _) _).trans (HC5.out.below (fun k hk => by rw [List.mem_singleton.1 hk]; exact Nat.le_refl _) (by simp))
  have HB := hid (HB1.out.trans (Below.mono hbel HB1.out.size))
  clear hbel HC5 HB1 KB
  go_simp
  go_wp2_with (refine wpList_buildSlice rfl 23 5 16 _ rfl #[.int .u8 66, .int .u8 0, .int .u8 32, .int .u8 7, .int .u8 0, .int .u8 0, .int .u8 0, .int .u8 1, .int .u8 255, .int .u8 0, .int .u8 0, .int .u8 0, .int .u8 0, .int .u8 0, .int .u8 0, .int .u8 0] i _ Tryd.underlying23 hi hz0 (by rw [hz1]; decide) (by rw [hz1]; decide) (by rw [hz1]; kernel_rfl) ?_)
  refine (Decode_any _ 16 16 [66, 0, 32, 7, 0, 0, 0, 1, 255, 0, 0, 0, 0, 0, 0, 0] _ (GB.new wb3 _ _ rfl 16 rfl (by decide)) (HT.out.below (HB.out.trans (Below.mono ((Below.refl _ _).alloc (Nat.le_refl _) _) HB.out.size)))).mono ?_
  rintro e wa4 ⟨hb, v4, rfl, _, _, _⟩
  dsimp only
  rw [kn4]
  have HB1 := hid (HB.out.trans (Below.mono (((Below.refl _ _).alloc (Nat.le_refl _) _).trans (hb.mono (by simp))) HB.out.size))
  clear hb HB
  go_upto_region 7 with (first | (refine wpList_alloc_obj rfl 29 rfl _ iZero ?_) | (refine wpList_store_obj rfl 29 _ _ rfl wa4.heap.size rfl _ rfl _ _ (block_new wa4 _) rfl iSize (arr_one v4) ?_; intro wb4 hb5 hc5 hs5; have KB := hid hb5; have HC5 := hid hc5; clear hb5 hc5 hs5))
  have hbel : Below wa4.heap.size wa4 wb4 := ((Below.refl _ wa4).alloc (Nat.le_refl _) _).trans (HC5.out.below (fun k hk => by rw [List.mem_singleton.1 hk]; exact Nat.le_refl _) (by simp))
  have HB := hid (HB1.out.trans (Below.mono hbel HB1.out.size))
  clear hbel HC5 HB1 KB
  go_simp
  go_wp2_with (refine wpList_buildSlice rfl 23 5 15 _ rfl #[.int .u8 66, .int .u8 0, .int .u8 32, .int .u8 8, .int .u8 0, .int .u8 0, .int .u8 0, .int .u8 1, .int .u8 255, .int .u8 0, .int .u8 0, .int .u8 0, .int .u8 0, .int .u8 0, .int .u8 0] i _ Tryd.underlying23 hi hz0 (by rw [hz1]; decide) (by rw [hz1]; decide) (by rw [hz1]; kernel_rfl) ?_)
  refine (Decode_any _ 15 15 [66, 0, 32, 8, 0, 0, 0, 1, 255, 0, 0, 0, 0, 0, 0] _ (GB.new wb4 _ _ rfl 15 rfl (by decide)) (HT.out.below (HB.out.trans (Below.mono ((Below.refl _ _).alloc (Nat.le_refl _) _) HB.out.size)))).mono ?_
  rintro e wa5 ⟨hb, v5, rfl, _, _, _⟩
  dsimp only
  rw [kn5]
  have HB1 := hid (HB.out.trans (Below.mono (((Below.refl _ _).alloc (Nat.le_refl _) _).trans (hb.mono (by simp))) HB.out.size))
  clear hb HB
  go_upto_region 8 with (first | (refine wpList_alloc_obj rfl 29 rfl _ iZero ?_) | (refine wpList_store_obj rfl 29 _ _ rfl wa5.heap.size rfl _ rfl _ _ (block_new wa5 _) rfl iSize (arr_one v5) ?_; intro wb5 hb5 hc5 hs5; have KB := hid hb5; have HC5 := hid hc5; clear hb5 hc5 hs5))
  have hbel : Below wa5.heap.size wa5 wb5 := ((Below.refl _ wa5).alloc (Nat.le_refl _) _).trans (HC5.out.below (fun k hk => by rw [List.mem_singleton.1 hk]; exact Nat.le_refl _) (by simp))
  have HB := hid (HB1.out.trans (Below.mono hbel HB1.out.size))
  clear hbel HC5 HB1 KB
  go_simp
  go_wp2_with (refine wpList_buildSlice rfl 23 5 9 _ rfl #[.int .u8 66, .int .u8 0, .int .u8 32, .int .u8 1, .int .u8 0, .int .u8 0, .int .u8 0, .int .u8 0, .int .u8 0] i _ Tryd.underlying23 hi hz0 (by rw [hz1]; decide) (by rw [hz1]; decide) (by rw [hz1]; kernel_rfl) ?_)
  refine (Decode_any _ 9 9 [66, 0, 32, 1, 0, 0, 0, 0, 0] _ (GB.new wb5 _ _ rfl 9 rfl (by decide)) (HT.out.below (HB.out.trans (Below.mono ((Below.refl _ _).alloc (Nat.le_refl _) _) HB.out.size)))).mono ?_
  rintro e wa6 ⟨hb, v6, rfl, _, _, _⟩
  dsimp only
  rw [kn6]
  have HB1 := hid (HB.out.trans (Below.mono (((Below.refl _ _).alloc (Nat.le_refl _) _).trans (hb.mono (by simp))) HB.out.size))
  clear hb HB
  go_upto_region 9 with (first | (refine wpList_alloc_obj rfl 29 rfl _ iZero ?_) | (refine wpList_store_obj rfl 29 _ _ rfl wa6.heap.size rfl _ rfl _ _ (block_new wa6 _) rfl iSize (arr_one v6) ?_; intro wb6 hb5 hc5 hs5; have KB := hid hb5; have HC5 := hid hc5; clear hb5 hc5 hs5))
  have hbel : Below wa6.heap.size wa6 wb6 := ((Below.refl _ wa6).alloc (Nat.le_refl _) _).trans (HC5.out.below (fun k hk => by rw [List.mem_singleton.1 hk]; exact Nat.le_refl _) (by simp))
  have HB := hid (HB1.out.trans (Below.mono hbel HB1.out.size))
  clear hbel HC5 HB1 KB
  go_simp
  go_upto_region 10 with (first | (refine wpList_build_obj rfl 29 _ rfl #[(0, .int .i64 4325377), (1, .int .i64 1)] rfl _ (iBuild40 _) ?_) | (refine wpList_alloc_obj rfl 29 rfl _ iZero ?_) | (refine wpList_store_obj rfl 29 _ _ rfl wb6.heap.size rfl (ItV.arr { tag := 4325377, typ := 1 }) rfl _ _ (block_new wb6 _) rfl iSize (arr_one _) ?_; intro wi hb5 hc5 hs5; have KB := hid hb5; have HC5 := hid hc5; clear hb5 hc5 hs5))
  have hbel : Below wb6.heap.size wb6 wi := ((Below.refl _ wb6).alloc (Nat.le_refl _) _).trans (HC5.out.below (fun k hk => by rw [List.mem_singleton.1 hk]; exact Nat.le_refl _) (by simp))
  have HB2 := hid (HB.out.trans (Below.mono hbel HB.out.size))
  have HWS := hid HB.out.size
  clear hbel HC5 HB
  generalize wb6.heap.size = bi at *
  go_simp
  go_wp2_with fail
  go_loopw [18] (fun y wr => NsSt w bi y wr) (fun y _ => 12 - (intOf y).toNat)
  case atStart => exact ⟨⟨0, { tag := 4325377, typ := 1 }, by decide, rfl, by rw [ItV.it_eq]; rfl, ItV.ok_iff.2 ⟨SlC.nil _, SlR.nil _ _, fun x hx => by cases hx⟩, fun q hq => by simp [ItV.foot, Sl.blk, footAll] at hq, KB.out, HB2.out⟩⟩
  case round =>
    obtain ⟨k, v, hk, rfl, hvi, hvo, hvf, hvb, hvw⟩ := hrel.ex
    clear hrel HB2 KB
    have HVI := hid hvi; have HVO := hid hvo; have HVF := hid hvf; have HVB := hid hvb; have HVW := hid hvw
    clear hvi hvo hvf hvb hvw
    by_cases hk12 : k < 12
    · have hkz : (k : Int) < 12 := by omega
      have hb1 : Below wr.heap.size wr (wr.alloc (.cells v.arr 29)) := (Below.refl _ _).alloc (Nat.le_refl _) _
      have hb2 := block_new wr (.cells v.arr 29)
      have HBL := hid ((hb1.block _ (block_lt HVB.out)).trans HVB.out)
      have HSR := hid (SlR.blockK (n := 1) hb2 (show v.arr.toList = itmCells [v] by simp [itmCells, ItV.cells]) (by simp [itmCells, ItV.cells, ItV.arr]) (by decide))
      have HVO2 := hid (HVO.out.below hb1)
      have HVW2 := hid (HVW.out.trans (Below.mono hb1 HVW.out.size))
      have HQ := hid (block_lt HVB.out)
      clear hb1 hb2
      go_upto_region 12 with (first | (refine wpList_load_row rfl 29 _ rfl bi rfl _ _ _ _ HVB.out Tryd.underlying29 rfl iSize ?_) | (refine wpList_build_item rfl 27 29 _ rfl v rfl j Tryd.underlying27 ji jz0 jz1 ?_) | (refine wpList_build_obj rfl 29 _ rfl #[(0, .int .i64 4325377), (1, .int .i64 1), (4, .slice (some ⟨wr.heap.size, 0, none⟩) 1 1)] rfl _ (iBuildN v _ _ _ _) ?_) | (refine wpList_store_obj rfl 29 _ _ rfl bi rfl (nsV v ⟨some ⟨wr.heap.size, 0, none⟩, 1, 1⟩).arr rfl _ _ HBL.out rfl iSize (arr_one _) ?_; intro w9 hb5 hc5 hs5; have HK9 := hid hb5; have HC9 := hid hc5; clear hb5 hc5 hs5))
      have HRR0 : Hid (NsSt w bi (.int .i64 ((k : Int) + 1)) w9) := ⟨⟨k + 1, nsV v ⟨some ⟨wr.heap.size, 0, none⟩, 1, 1⟩, by omega, by go_num, by rw [ItV.it_eq]; show (⟨4325377, 1, 0, [], [v.it]⟩ : Itm) = _; rw [HVI.out]; rfl,
        ItV.ok.keep HC9.out (ItV.ok_iff.2 ⟨SlC.nil _, HSR.out, fun x hx => by rw [List.mem_singleton.1 hx]; exact HVO2.out⟩) (fun q hq hm => by
          have h2 := List.mem_singleton.1 hm
          have h3 := HQ.out
          rcases ItV.mem_foot.1 hq with h | h | ⟨x, hx, h⟩
          · simp [nsV, Sl.blk] at h
          · simp [nsV, Sl.blk] at h; omega
          · rw [List.mem_singleton.1 hx] at h; have := HVF.out q h; omega),
        fun q hq => by
          have h3 := HQ.out
          rcases ItV.mem_foot.1 hq with h | h | ⟨x, hx, h⟩
          · simp [nsV, Sl.blk] at h
          · simp [nsV, Sl.blk] at h; omega
          · rw [List.mem_singleton.1 hx] at h; exact HVF.out q h, HK9.out, HVW2.out.trans (HC9.out.below (fun q hq => by rw [List.mem_singleton.1 hq]; exact HWS.out) HVW2.out.size)⟩⟩
      clear HBL HSR HVO2 HVW2 HQ HK9 HC9
      go_simp
      go_wp2_with fail
      have HRR := HRR0.out
      go_roundw
      case rel => first | exact HRR | ((repeat apply Exists.intro); exact HRR) | ((repeat apply Exists.intro); exact ⟨HRR, rfl⟩)
      case measure => (simp [intOf] <;> omega)
    · obtain rfl : k = 12 := by omega
      go_wp2_with (refine wpList_load_row rfl 29 _ rfl bi rfl _ _ _ _ HVB.out Tryd.underlying29 rfl iSize ?_)
      refine (Encode_any v _ HVO.out (HT.out.below HVW.out)).mono ?_
      rintro e w2 ⟨hb, h⟩
      rw [HVI.out] at h
      have he : e = .returned (.tuple #[.slice none 0 0, .int .i64 1]) := by
        rcases h with ⟨_, h⟩ | ⟨h, _⟩
        · exact h
        · rw [nest12] at h; cases h
      clear h
      subst he
      dsimp only
      have HB2 := hid (HVW.out.trans (Below.mono hb HVW.out.size))
      have HO2 := hid (HVO.out.below hb)
      have HK2 := hid ((hb.block _ (block_lt HVB.out)).trans HVB.out)
      clear hb HVW HVO HVB
      have hkm : v.kids.map ItV.it = [nest6 11] := by
        have h1 := HVI.out
        rw [ItV.it_eq] at h1
        have h2 := congrArg Itm.kids h1
        exact h2
      have hkl := (ItV.ok_iff.1 HO2.out).2.1.klen
      have hk1 : v.ks.n = 1 := by have h1 := congrArg List.length hkm; simp at h1; omega
      obtain ⟨bx, ox, y, hax, hy, hrow⟩ := (ItV.ok_iff.1 HO2.out).2.1.row (k := 0) (by omega)
      have hyi : y.it = nest6 11 := by
        have h1 := congrArg (fun l => l[0]?) hkm
        simp only [List.getElem?_map, hy] at h1
        simpa using h1
      have HY := hid hyi
      have HYO := hid ((ItV.ok_iff.1 HO2.out).2.2 y (List.mem_of_getElem? hy))
      have HRW : Hid (w2.rangeAt bx ox y.arr.toList) := by have h := hrow; rw [Nat.zero_mul, Nat.add_zero] at h; exact h
      have d4 := cell_of_block (j := 4) HK2.out (ar4 v)
      rw [hax, hk1] at d4
      clear hkm hkl hk1 hax hy hrow hyi
      go_wp2_with (refine wpList_load_mid rfl 29 _ rfl bx ox (by simp [Act.eval]) y.arr.toList _ HRW.out Tryd.underlying29 rfl iSize ?_; simp only [Array.toArray_toList])
      refine (Encode_any y _ HYO.out (HT.out.below HB2.out)).mono ?_
      rintro e w3 ⟨hb, h⟩
      rw [HY.out] at h
      rcases h with ⟨h, _⟩ | ⟨_, a, n, c, rfl, hown⟩
      · rw [nest11.1] at h; cases h
      dsimp only
      obtain rfl : n = 96 := by have h1 := hown.1; rw [List.length_map, nest11.2] at h1; omega
      have HB3 := hid (HB2.out.trans (Below.mono hb HB2.out.size))
      clear hb hown HB2 HO2 HK2 d4 HYO HRW HY HVI HVF
      have hb1 : Below w3.heap.size w3 (w3.alloc (.cells k3C 29)) := (Below.refl _ _).alloc (Nat.le_refl _) _
      have hb2 := block_new w3 (.cells k3C 29)
      have HSR := hid (SlR.blockK (n := 3) hb2 (show k3C.toList = itmCells [{ tag := 1 }, { tag := 2, int := 3 }, { tag := 2, int := 4 }] by simp [k3C, itmCells, ItV.cells]) (by simp [itmCells, ItV.cells, ItV.arr]) (by decide))
      have HB4 := hid (HB3.out.trans (Below.mono hb1 HB3.out.size))
      clear hb1 hb2
      go_wp2_with (first | (refine wpList_build_obj rfl 29 _ rfl #[(0, .int .i64 1)] rfl _ (iBuildA _) ?_) | (refine wpList_build_obj rfl 29 _ rfl #[(0, .int .i64 2), (2, .int .i64 3)] rfl _ (iBuildB 3 _) ?_) | (refine wpList_build_obj rfl 29 _ rfl #[(0, .int .i64 2), (2, .int .i64 4)] rfl _ (iBuildB 4 _) ?_) | (refine wpList_build_three rfl 27 29 (.tmp 87) (.tmp 88) (.tmp 89) rfl (by rfl) (by rfl) (by rfl) j Tryd.underlying27 ji jz0 jz1 ?_) | (refine wpList_build_obj rfl 29 _ rfl #[(1, .int .i64 1), (4, .slice (some ⟨w3.heap.size, 0, none⟩) 3 3)] rfl _ (iBuildC _ _ _ _) ?_))
      refine (kid_any (kdV ⟨some ⟨w3.heap.size, 0, none⟩, 3, 3⟩) 2 _ (ItV.ok_iff.2 ⟨SlC.nil _, HSR.out, fun x hx => by
        have hz : ∀ (t n : Int), ItV.ok (w3.alloc (.cells k3C 29)) { tag := t, int := n } := fun t n => ItV.ok_iff.2 ⟨SlC.nil _, SlR.nil _ _, fun x hx => by cases hx⟩
        rcases List.mem_cons.1 hx with h | h
        · rw [h]; exact hz 1 0
        · rcases List.mem_cons.1 h with h | h
          · rw [h]; exact hz 2 3
          · rw [List.mem_singleton.1 h]; exact hz 2 4⟩)).mono ?_
      intro e w5 hres
      have hres2 : ∃ v' : ItV, e = .returned (.tuple #[.agg v'.arr, .bool true]) ∧ v'.int = 3 ∧ Below (w3.alloc (.cells k3C 29)).heap.size (w3.alloc (.cells k3C 29)) w5 := by
        have h : KidRes (kdV ⟨some ⟨w3.heap.size, 0, none⟩, 3, 3⟩) 2 (w3.alloc (.cells k3C 29)) e w5 := hres
        unfold KidRes at h
        have hf : (kdV ⟨some ⟨w3.heap.size, 0, none⟩, 3, 3⟩).kids.find? (fun x => x.tag == 2) = some { tag := 2, int := 3 } := rfl
        rw [hf] at h
        obtain ⟨v', rfl, h1, _, _, h2⟩ := h
        refine ⟨v', rfl, ?_, h2⟩
        rw [ItV.it_eq, ItV.it_eq] at h1
        exact congrArg Itm.int h1
      clear hres
      obtain ⟨v', rfl, hvi, hb⟩ := hres2
      dsimp only
      have HVI := hid hvi
      have HB5 := hid (HB4.out.trans (Below.mono hb HB4.out.size))
      clear hvi hb HB4 HSR HB3
      go_upto_region 17 with (first | (refine wpList_alloc_obj rfl 29 rfl _ iZero ?_) | (refine wpList_store_obj rfl 29 _ _ rfl w5.heap.size rfl _ rfl _ _ (block_new w5 _) rfl iSize (arr_one v') ?_; intro w6 hb5 hc5 hs5; have KB := hid hb5; have HC5 := hid hc5; clear hb5 hc5 hs5))
      have hbel : Below w5.heap.size w5 w6 := ((Below.refl _ w5).alloc (Nat.le_refl _) _).trans (HC5.out.below (fun k hk => by rw [List.mem_singleton.1 hk]; exact Nat.le_refl _) (by simp))
      have HB6 := hid (HB5.out.trans (Below.mono hbel HB5.out.size))
      clear hbel HC5 HB5
      generalize w5.heap.size = b23 at *
      go_simp
      go_wp2_with fail
      refine (known6_any _ (HT.out.below HB6.out)).mono ?_
      rintro e w7 ⟨rfl, hb⟩
      dsimp only
      have HB7 := hid (HB6.out.trans (Below.mono hb HB6.out.size))
      have d2 := cell_of_block (j := 2) ((hb.block _ (block_lt KB.out)).trans KB.out) (ar2 v')
      rw [HVI.out] at d2
      clear hb HB6 KB
      go_wp2_with fail
      go_ret
      exact ⟨rfl, HB7.out⟩
end Go.Proofs.YtmpajhacigjloaaDoor
