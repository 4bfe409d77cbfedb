/- WalKnown's walk. -/
import Derived.Test.YtclpkjjhphanpaaWalM
import Derived.Lib.SmallJoins
import Derived.Test.YtclpkjjhphanpaaWal6
namespace Go.Proofs.Ytclpkjjhphanpaa
open Go.RowKit
set_option linter.unusedVariables false
set_option linter.unusedSimpArgs false
set_option maxRecDepth 100000
set_option maxHeartbeats 6400000
theorem openNil_any (w : World) : Calls Try.prog 6 #[.pointer none] w fun e w' => e = .returned (.tuple #[.pointer none, .slice none 0 0, .int .i64 1]) ∧ w = w' := by
  go_enter Try.func6, Try.ntmps6
  go_wp2_with fail
  refine bodyPost_ret (results_tmp3 rfl _ _ _) rfl ?_
  exact ⟨rfl, rfl⟩
theorem UnA.of1 {w : World} {g g1 n1 c1 : Nat} {l1 : List UInt8} {T : TypeId} (hb : w.heap[g]? = some (.cells #[.slice (some ⟨g1, 0, none⟩) n1 c1] T (0, 0))) (r1 : RdB w (some ⟨g1, 0, none⟩) n1 l1) (h1 : n1 ≤ 1099511627776) : UnA w (some ⟨g, 0, none⟩) 1 [l1] := by
  refine ⟨rfl, fun k hk => ?_⟩
  obtain rfl : k = 0 := by omega
  exact ⟨g, 0, _, n1, c1, l1, rfl, rfl, cell_of_block (j := 0) hb rfl, r1, (fun h => by cases h), h1⟩
theorem UnA.of2 {w : World} {g g1 n1 c1 g2 n2 c2 : Nat} {l1 l2 : List UInt8} {T : TypeId} (hb : w.heap[g]? = some (.cells #[.slice (some ⟨g1, 0, none⟩) n1 c1, .slice (some ⟨g2, 0, none⟩) n2 c2] T (0, 0))) (r1 : RdB w (some ⟨g1, 0, none⟩) n1 l1) (h1 : n1 ≤ 1099511627776) (r2 : RdB w (some ⟨g2, 0, none⟩) n2 l2) (h2 : n2 ≤ 1099511627776) : UnA w (some ⟨g, 0, none⟩) 2 [l1, l2] := by
  refine ⟨rfl, fun k hk => ?_⟩
  rcases (show k = 0 ∨ k = 1 by omega) with rfl | rfl
  · exact ⟨g, 0, _, n1, c1, l1, rfl, rfl, cell_of_block (j := 0) hb rfl, r1, (fun h => by cases h), h1⟩
  · exact ⟨g, 0, _, n2, c2, l2, rfl, rfl, cell_of_block (j := 1) hb rfl, r2, (fun h => by cases h), h2⟩
theorem alloc_size (w : World) (o : Obj) : (w.alloc o).heap.size = w.heap.size + 1 := by simp
theorem new_up8 : UpD (DSt.new 8) := ⟨rfl, rfl⟩
theorem walKnown_walk (w : World) :
    Calls Try.prog 3 #[] w fun e w' => e = .returned (.bool true) ∧ Below w.heap.size w w' := by
  have kc := fun (w : World) (C : Array Value) (n c : Nat) => Lib.run_convert_bytes_const (P := Try.prog) w 32 5 C n c Try.underlying32 Try.underlying5
  have kc2 := fun (w : World) (o : Obj) (C : Array Value) (n c : Nat) => Go.Joins.run_convert_bytes_const_at (P := Try.prog) (w.alloc o) 32 5 C n c (w.heap.size + 1) (by simp) Try.underlying32 Try.underlying5
  obtain ⟨i, hi, hz0, hz1, hz2⟩ := info_parts dInfoB
  obtain ⟨C60, hC60, hmk60⟩ : ∃ C, C = ((List.replicate 60 (0 : UInt8)).map B8).toArray ∧ ∀ w : World, (Instr.makeSlice 32 (.int .i64 60) (.int .i64 60)).run Try.prog w = .ok (.slice (some ⟨w.heap.size, 0, none⟩) 60 60) (w.alloc (.cells C 5)) :=
    ⟨_, by rw [hz1]; exact Array.toList_inj.1 ((made_bytes 60).trans rfl), fun w => run_make (P := Try.prog) w 32 5 i (.int .u8 0) Try.underlying32 hi hz0 .i64 .i64 60 60 (by omega) (by omega) (by rw [hz2]; omega) (by omega)⟩
  obtain ⟨C200, hC200, hmk200⟩ : ∃ C, C = ((List.replicate 200 (0 : UInt8)).map B8).toArray ∧ ∀ w : World, (Instr.makeSlice 32 (.int .i64 200) (.int .i64 200)).run Try.prog w = .ok (.slice (some ⟨w.heap.size, 0, none⟩) 200 200) (w.alloc (.cells C 5)) :=
    ⟨_, by rw [hz1]; exact Array.toList_inj.1 ((made_bytes 200).trans rfl), fun w => run_make (P := Try.prog) w 32 5 i (.int .u8 0) Try.underlying32 hi hz0 .i64 .i64 200 200 (by omega) (by omega) (by rw [hz2]; omega) (by omega)⟩
  have HC60 := hid hC60; have HC200 := hid hC200
  clear hC60 hC200
  go_enter Try.func3, Try.ntmps3
  go_wp2_with fail
  refine (openNil_any _).mono ?_
  rintro e wz ⟨rfl, rfl⟩
  dsimp only
  go_wp2_with fail
  refine (new_any 8 _ (by decide) (by decide)).mono ?_
  rintro e w1 ⟨F, rfl, hd1, hb1, hF1⟩
  dsimp only
  have HD1 := hid hd1; have HB1 := hid hb1; have HF1 := hid hF1
  obtain ⟨p, hp⟩ : ∃ p, p = w.heap.size := ⟨_, rfl⟩
  have HP := hid hp
  rw [← hp] at HD1 ⊢
  clear hd1 hb1 hF1 hp
  go_wp2_with fail
  refine (open0_any 8 p F _ HD1.out (by decide)).mono ?_
  rintro e w2 ⟨pl, rfl, hl2, hd2, hb2, hp2⟩
  dsimp only
  have hpf : pl ∉ F := fun hm => by have h1 := Dk.lt HD1.out pl hm; omega
  have S2 := hid (show LgS w2 p pl 8 0 0 0 (-1) [] (DSt.new 8) F from ⟨hl2, hd2, hpf, Inv.new 8 (by decide) (by decide), by simp [DSt.new]⟩)
  have HB2 := hid (HB1.out.trans (hb2.mono HB1.out.size))
  have HLO := hid (show ∀ q ∈ pl :: F, w.heap.size ≤ q from fun q hq => by
    rcases List.mem_cons.1 hq with h | h
    · have := HB1.out.size; omega
    · exact HF1.out q h)
  have HPW : Hid (w.heap.size ≤ pl) := Nat.le_trans HB1.out.size hp2
  clear hl2 hd2 hb2 hp2 hpf HD1 HB1
  go_wp2_with fail
  refine (known4_any _).mono ?_
  rintro e w3 ⟨rfl, hb3⟩
  dsimp only
  have S3 := hid (S2.out.below hb3)
  have HB3 := hid (HB2.out.trans (hb3.mono HB2.out.size))
  clear hb3 S2 HB2
  go_wp2_with fail
  have bA : Below w3.heap.size w3 (w3.alloc (Obj.cells #[Value.int IntKind.u8 97, Value.int IntKind.u8 98] 5 (2, 3))) := (Below.refl _ _).alloc (Nat.le_refl _) _
  have rA : RdB (w3.alloc (Obj.cells #[Value.int IntKind.u8 97, Value.int IntKind.u8 98] 5 (2, 3))) (some ⟨w3.heap.size, 0, none⟩) 2 [97, 98] := RdB.new w3 [97, 98] _ _ _ (by kernel_rfl) 2 rfl _ rfl
  obtain ⟨wA, hwA⟩ : ∃ x, w3.alloc (Obj.cells #[Value.int IntKind.u8 97, Value.int IntKind.u8 98] 5 (2, 3)) = x := ⟨_, rfl⟩
  have sA : w3.heap.size + 1 = wA.heap.size := by rw [← hwA, alloc_size]
  rw [hwA] at bA rA
  rw [hwA, sA]
  have bB : Below wA.heap.size wA (wA.alloc (Obj.cells #[Value.int IntKind.u8 99] 5 (1, 2))) := (Below.refl _ _).alloc (Nat.le_refl _) _
  have rB : RdB (wA.alloc (Obj.cells #[Value.int IntKind.u8 99] 5 (1, 2))) (some ⟨wA.heap.size, 0, none⟩) 1 [99] := RdB.new wA [99] _ _ _ (by kernel_rfl) 1 rfl _ rfl
  obtain ⟨wB, hwB⟩ : ∃ x, wA.alloc (Obj.cells #[Value.int IntKind.u8 99] 5 (1, 2)) = x := ⟨_, rfl⟩
  have sB : wA.heap.size + 1 = wB.heap.size := by rw [← hwB, alloc_size]
  rw [hwB] at bB rB
  rw [hwB, sB]
  have bC : Below wB.heap.size wB (wB.alloc (Obj.cells #[Value.slice (some ⟨w3.heap.size, 0, none⟩) 2 2, Value.slice (some ⟨wA.heap.size, 0, none⟩) 1 1] 32)) := (Below.refl _ _).alloc (Nat.le_refl _) _
  have hC := block_new wB (Obj.cells #[Value.slice (some ⟨w3.heap.size, 0, none⟩) 2 2, Value.slice (some ⟨wA.heap.size, 0, none⟩) 1 1] 32)
  obtain ⟨wC, hwC⟩ : ∃ x, wB.alloc (Obj.cells #[Value.slice (some ⟨w3.heap.size, 0, none⟩) 2 2, Value.slice (some ⟨wA.heap.size, 0, none⟩) 1 1] 32) = x := ⟨_, rfl⟩
  rw [hwC] at bC hC
  rw [hwC]
  have bAC := (bA.trans (bB.mono bA.size)).trans (bC.mono (Nat.le_trans bA.size bB.size))
  have hun := UnA.of2 hC ((rA.below bB).below bC) (by decide) (rB.below bC) (by decide)
  refine (appendS_any (S3.out.below bAC) (some ⟨wB.heap.size, 0, none⟩) 2 2 [[97, 98], [99]] hun (by decide) (by decide) (by decide)).mono ?_
  rintro e w5 ⟨ec, s5, F5, rfl, hc5, hfr5, hwk5, hup5, hcs5⟩
  have hu5 := hup5 new_up8
  obtain ⟨rfl, S5⟩ : ec = 0 ∧ Hid (LgS w5 p pl 8 1 0 2 0 [[97, 98], [99]] s5 F5) := by
    rcases hcs5 with ⟨-, h2, -⟩ | ⟨h1, -, h3⟩ | ⟨h1, -⟩
    · exact absurd h2 (by decide)
    · exact ⟨h1, h3⟩
    · exact absurd h1 hu5.1
  have HU5 := hid hu5.2
  have HB5 := hid ((HB3.out.trans (bAC.mono HB3.out.size)).trans (hc5.below HLO.out (Nat.le_trans HB3.out.size bAC.size)))
  have HLO5 := hid (show ∀ q ∈ pl :: F5, w.heap.size ≤ q from fun q hq => by
    rcases List.mem_cons.1 hq with h | h
    · exact HLO.out q (by rw [h]; simp)
    · rcases hfr5 q h with h' | h'
      · exact HLO.out q (List.mem_cons_of_mem _ h')
      · have := HB3.out.size; have := bAC.size; omega)
  have HW5 := hid hwk5
  dsimp only
  clear bA rA hwA sA bB rB hwB sB bC hC hwC bAC hun hc5 hfr5 hwk5 hup5 hcs5 hu5 S3 HB3 HLO
  go_wp2_with fail
  have bA : Below w5.heap.size w5 (w5.alloc (Obj.cells C60 5)) := (Below.refl _ _).alloc (Nat.le_refl _) _
  have rA : RdB (w5.alloc (Obj.cells C60 5)) (some ⟨w5.heap.size, 0, none⟩) 60 (List.replicate 60 0) := RdB.new w5 (List.replicate 60 0) _ _ _ HC60.out 60 (by simp) _ rfl
  obtain ⟨wA, hwA⟩ : ∃ x, w5.alloc (Obj.cells C60 5) = x := ⟨_, rfl⟩
  have sA : w5.heap.size + 1 = wA.heap.size := by rw [← hwA, alloc_size]
  rw [hwA] at bA rA
  rw [hwA, sA]
  have bC : Below wA.heap.size wA (wA.alloc (Obj.cells #[Value.slice (some ⟨w5.heap.size, 0, none⟩) 60 60] 32)) := (Below.refl _ _).alloc (Nat.le_refl _) _
  have hC := block_new wA (Obj.cells #[Value.slice (some ⟨w5.heap.size, 0, none⟩) 60 60] 32)
  obtain ⟨wC, hwC⟩ : ∃ x, wA.alloc (Obj.cells #[Value.slice (some ⟨w5.heap.size, 0, none⟩) 60 60] 32) = x := ⟨_, rfl⟩
  rw [hwC] at bC hC
  rw [hwC]
  have bAC := bA.trans (bC.mono bA.size)
  have hun := UnA.of1 hC (rA.below bC) (by decide)
  have hw5 := HW5.out
  have hd0 : (DSt.new 8).works = 0 := rfl
  have hsz2 : sizeAll [[97, 98], [99]] = 2 := rfl
  have hsz60 : sizeAll [List.replicate 60 0] = 2 := rfl
  refine (appendS_any (S5.out.below bAC) (some ⟨wA.heap.size, 0, none⟩) 1 1 [List.replicate 60 0] hun (by decide) (by rw [hsz60]; decide) (by omega)).mono ?_
  rintro e w6 ⟨ec, s6, F6, rfl, hc6, hfr6, hwk6, hup6, hcs6⟩
  have hu6 := hup6 HU5.out
  obtain ⟨rfl, S6, rfl⟩ : ec = 2 ∧ Hid (LgS w6 p pl 8 1 0 2 0 [[97, 98], [99]] s6 F6) ∧ s6 = s5 := by
    rcases hcs6 with ⟨h1, h2, h3, h4⟩ | ⟨h1, h2, -⟩ | ⟨h1, -⟩
    · exact ⟨h1, h3, h4⟩
    · rw [hsz60] at h2; exact absurd (by decide) h2
    · exact absurd h1 hu6.1
  have HB6 := hid ((HB5.out.trans (bAC.mono HB5.out.size)).trans (hc6.below HLO5.out (Nat.le_trans HB5.out.size bAC.size)))
  have HLO6 := hid (show ∀ q ∈ pl :: F6, w.heap.size ≤ q from fun q hq => by
    rcases List.mem_cons.1 hq with h | h
    · exact HLO5.out q (by rw [h]; simp)
    · rcases hfr6 q h with h' | h'
      · exact HLO5.out q (List.mem_cons_of_mem _ h')
      · have := HB5.out.size; have := bAC.size; omega)
  dsimp only
  clear bA rA hwA sA bC hC hwC bAC hun hc6 hfr6 hwk6 hup6 hcs6 hu6 S5 HB5 HLO5
  go_wp2_with fail
  have bA : Below w6.heap.size w6 (w6.alloc (Obj.cells C200 5)) := (Below.refl _ _).alloc (Nat.le_refl _) _
  have rA : RdB (w6.alloc (Obj.cells C200 5)) (some ⟨w6.heap.size, 0, none⟩) 200 (List.replicate 200 0) := RdB.new w6 (List.replicate 200 0) _ _ _ HC200.out 200 (by simp) _ rfl
  obtain ⟨wA, hwA⟩ : ∃ x, w6.alloc (Obj.cells C200 5) = x := ⟨_, rfl⟩
  rw [hwA] at bA rA
  rw [hwA]
  refine (resetS_any (S6.out.below bA) (some ⟨w6.heap.size, 0, none⟩) 200 200 (List.replicate 200 0) rA (fun h => by cases h) (by decide) (by decide) (by omega)).mono ?_
  rintro e w7 ⟨ec, s7, F7, rfl, hc7, hfr7, hwk7, hup7, hcs7⟩
  have hu7 := hup7 HU5.out
  have hu200 : unitSize (List.replicate 200 (0 : UInt8)).length = 4 := by rw [List.length_replicate]; rfl
  obtain ⟨rfl, S7, rfl⟩ : ec = 2 ∧ Hid (LgS w7 p pl 8 1 0 2 0 [[97, 98], [99]] s7 F7) ∧ s7 = s6 := by
    rcases hcs7 with ⟨h1, h2, h3, h4⟩ | ⟨h1, h2, -⟩ | ⟨h1, -⟩
    · exact ⟨h1, h3, h4⟩
    · rw [hu200] at h2; exact absurd (by decide) h2
    · exact absurd h1 hu7.1
  have HB7 := hid ((HB6.out.trans (bA.mono HB6.out.size)).trans (hc7.below HLO6.out (Nat.le_trans HB6.out.size bA.size)))
  have HLO7 := hid (show ∀ q ∈ pl :: F7, w.heap.size ≤ q from fun q hq => by
    rcases List.mem_cons.1 hq with h | h
    · exact HLO6.out q (by rw [h]; simp)
    · rcases hfr7 q h with h' | h'
      · exact HLO6.out q (List.mem_cons_of_mem _ h')
      · have := HB6.out.size; have := bA.size; omega)
  dsimp only
  clear bA rA hwA hc7 hfr7 hwk7 hup7 hcs7 hu7 hu200 S6 HB6 HLO6
  go_wp2_with fail
  refine (logHead_any pl p 1 ((0 : Nat) : Int) ((2 : Nat) : Int) 0 false _ S7.out.lg).mono ?_
  rintro e w8 ⟨rfl, hb8⟩
  dsimp only
  have S8 := hid (S7.out.below hb8)
  have HB8 := hid (HB7.out.trans (hb8.mono HB7.out.size))
  clear hb8 S7 HB7
  go_upto_region 10 with (first | (refine wpList_alloc_obj rfl 36 rfl _ hZero ?_) | (refine wpList_store_obj rfl 36 _ _ rfl w8.heap.size rfl (headArr 1 ((0 : Nat) : Int) ((2 : Nat) : Int)) rfl _ _ (block_new w8 _) rfl hSize (headArr_one _ _ _) ?_; intro w9 hb9 hc9 hs9; have HX9 := hid hb9; have HC9 := hid hc9; clear hb9 hc9 hs9))
  have hbel : Below w8.heap.size w8 w9 := ((Below.refl _ w8).alloc (Nat.le_refl _) _).trans (HC9.out.below (fun k hk => by rw [List.mem_singleton.1 hk]; exact Nat.le_refl _) (by simp))
  have S9 := hid (S8.out.below hbel)
  have HB9 := hid (HB8.out.trans (hbel.mono HB8.out.size))
  have HBXN := hid S8.out.low
  clear hbel HC9 S8 HB8
  generalize w8.heap.size = bx at *
  go_wp2_with fail
  have bA : Below w9.heap.size w9 (w9.alloc (Obj.cells #[Value.int IntKind.u8 122] 5 (1, 2))) := (Below.refl _ _).alloc (Nat.le_refl _) _
  have rA : RdB (w9.alloc (Obj.cells #[Value.int IntKind.u8 122] 5 (1, 2))) (some ⟨w9.heap.size, 0, none⟩) 1 [122] := RdB.new w9 [122] _ _ _ (by kernel_rfl) 1 rfl _ rfl
  obtain ⟨wA, hwA⟩ : ∃ x, w9.alloc (Obj.cells #[Value.int IntKind.u8 122] 5 (1, 2)) = x := ⟨_, rfl⟩
  rw [hwA] at bA rA
  rw [hwA]
  have hXA := (bA.block _ (block_lt HX9.out)).trans HX9.out
  refine (resetS_any (S9.out.below bA) (some ⟨w9.heap.size, 0, none⟩) 1 1 [122] rA (fun h => by cases h) (by decide) (by decide) (by omega)).mono ?_
  rintro e w10 ⟨ec, s10, F10, rfl, hc10, hfr10, hwk10, hup10, hcs10⟩
  have hu10 := hup10 HU5.out
  obtain ⟨rfl, S10⟩ : ec = 0 ∧ Hid (LgS w10 p pl 8 2 1 1 1 [[122]] s10 F10) := by
    rcases hcs10 with ⟨-, h2, -⟩ | ⟨h1, -, h3⟩ | ⟨h1, -⟩
    · exact absurd h2 (by decide)
    · exact ⟨h1, h3⟩
    · exact absurd h1 hu10.1
  have HX10 := hid ((hc10.block bx (block_lt hXA) (fun hm => by have := HBXN.out bx; exact absurd (HBXN.out bx hm) (Nat.lt_irrefl _))).trans hXA)
  have HB10 := hid ((HB9.out.trans (bA.mono HB9.out.size)).trans (hc10.below HLO7.out (Nat.le_trans HB9.out.size bA.size)))
  dsimp only
  clear bA rA hwA hXA hc10 hfr10 hwk10 hup10 hcs10 hu10 S9 HB9 HLO7 HX9 HBXN
  go_wp2_with fail
  refine (openS_any S10.out.dk S10.out.inv S10.out.sl).mono ?_
  rintro e w11 ⟨pl2, aU, nU, cU, rfl, -, hun, hb11, -⟩
  dsimp only
  have hlu := hun.len
  obtain rfl : nU = 1 := hlu.symm
  obtain ⟨b, off, a, n, c, l, rfl, hl0, hcell, hrd, hno, -⟩ := hun.row 0 (by decide)
  obtain rfl : [122] = l := Option.some.inj hl0
  have HRD := hid hrd; have HNO := hid hno
  have S11 := hid (S10.out.below hb11)
  have HX11 := hid (show w11.heap[bx]? = some (.cells #[.int .u64 1, .int .i64 0, .int .i64 2] 36 (0, 0)) from (hb11.block _ (block_lt HX10.out)).trans HX10.out)
  have HB11 := hid (HB10.out.trans (hb11.mono HB10.out.size))
  have hstr := run_bytes_str (P := Try.prog) hrd c 32 9 5 Try.underlying32 Try.underlying5 Try.underlying9
  rw [show ([122] : List UInt8).toArray = #[122] from rfl] at hstr
  have hcell' : w11.cell? ⟨b, off, none⟩ = some (.slice a n c) := hcell
  clear hlu hun hl0 hcell hrd hno hb11 S10 HX10 HB10
  go_wp2_with (first | (refine wpList_load_on rfl 36 _ rfl bx rfl _ _ _ _ HX11.out Try.underlying36 rfl hSize ?_))
  refine (logHead_any pl p 2 ((1 : Nat) : Int) ((1 : Nat) : Int) 1 false _ S11.out.lg).mono ?_
  rintro e w12 ⟨rfl, hb12⟩
  rw [show headArr 2 ((1 : Nat) : Int) ((1 : Nat) : Int) = #[.int .u64 2, .int .i64 1, .int .i64 1] from rfl]
  dsimp only
  have HB12 := hid (HB11.out.trans (hb12.mono HB11.out.size))
  clear hb12
  go_wp2_with fail
  have bA : Below w12.heap.size w12 (w12.alloc (Obj.cells #[Value.int IntKind.u8 97, Value.int IntKind.u8 98] 5 (2, 3))) := (Below.refl _ _).alloc (Nat.le_refl _) _
  have rA : RdB (w12.alloc (Obj.cells #[Value.int IntKind.u8 97, Value.int IntKind.u8 98] 5 (2, 3))) (some ⟨w12.heap.size, 0, none⟩) 2 [97, 98] := RdB.new w12 [97, 98] _ _ _ (by kernel_rfl) 2 rfl _ rfl
  refine (lay_any _ 2 2 [97, 98] _ rA (fun h => by cases h) (by decide)).mono ?_
  rintro e w13 ⟨a13, c13, rfl, -, hb13⟩
  have hl64 : (layB [97, 98]).length = 64 := by rw [layB_len]; rfl
  rw [hl64]
  dsimp only
  have HB13 := hid (HB12.out.trans ((bA.trans (hb13.mono bA.size)).mono HB12.out.size))
  clear hb13 bA rA hl64
  go_wp2_with fail
  go_ret
  exact ⟨rfl, HB13.out⟩
end Go.Proofs.Ytclpkjjhphanpaa
