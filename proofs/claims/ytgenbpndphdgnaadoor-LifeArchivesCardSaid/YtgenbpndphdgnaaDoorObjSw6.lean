/- locksmithhand.Object: case 6 of its switch. -/
import Derived.Test.YtgenbpndphdgnaaDoorObjMake2
namespace Go.Proofs.YtgenbpndphdgnaaDoor
open Go.RowKit
set_option linter.unusedVariables false
set_option linter.unusedSimpArgs false
set_option maxRecDepth 1000000
set_option maxHeartbeats 16000000
theorem obj_sw6 {w W : World} {x y : RawD} {b0 b5 b7 : Nat} {O : ObjD} {s : ObjV} (sl0 sl1 sl2 sl3 sl4 sl6 sl8 sl9 sl10 sl11 sl12 sl13 sl14 sl15 sl16 sl17 sl18 sl19 sl20 sl21 sl22 sl23 sl24 sl25 sl26 sl27 sl28 sl29 sl30 sl31 sl32 sl33 sl34 sl35 sl36 sl37 sl38 sl39 sl40 sl41 sl42 sl43 sl44 sl45 sl46 sl47 sl48 sl49 sl50 sl51 sl52 sl53 sl54 sl55 sl56 sl57 sl58 sl59 sl60 sl61 sl62 sl63 sl64 sl65 sl66 sl67 sl68 sl69 sl70 sl72 sl73 sl74 sl75 sl76 sl77 sl78 sl79 sl80 sl81 sl82 sl83 sl84 sl85 sl86 sl87 sl88 sl89 sl90 sl91 sl92 sl93 sl94 sl95 sl96 sl97 sl98 sl99 sl100 sl101 sl102 sl103 sl104 sl105 sl106 sl107 sl108 sl109 sl110 sl111 sl112 sl113 sl114 sl115 sl116 sl117 sl118 sl119 sl120 sl121 sl122 sl123 sl124 sl125 sl126 sl127 sl128 sl129 sl130 sl131 sl132 sl133 sl134 sl135 sl136 sl137 sl138 sl139 sl140 sl141 sl142 sl143 sl144 sl145 sl146 sl147 sl148 sl149 sl150 sl151 sl152 sl153 sl154 sl155 sl156 sl157 sl158 sl159 sl160 sl161 sl162 sl163 sl164 sl165 sl166 sl167 sl168 sl169 sl170 sl171 sl172 sl173 sl174 sl175 sl176 sl177 sl178 sl179 sl180 sl181 sl182 sl183 sl184 sl185 sl186 sl187 sl188 sl189 sl190 sl191 sl192 sl193 sl194 sl195 sl196 sl197 sl198 sl199 sl200 sl201 sl202 sl203 sl204 sl205 sl206 sl207 sl208 sl209 sl210 sl211 sl212 sl213 sl214 sl215 sl216 sl217 sl218 sl219 sl220 sl221 sl222 sl223 sl224 sl225 sl226 sl227 sl228 : Value) (J K' : Act → World → Prop) (Q' : Exit → Act → World → Prop)
    (HW : Hid (HObj w W x b0 b5 O s)) (RY : Hid (W.heap[b7]? = some (.cells #[.int .i64 y.kind, .int .i64 y.a, .int .i64 y.b, .int .i64 y.c] 23 (0, 0)))) (NE7 : Hid (b7 ≠ b5)) (NE : Hid (b5 < b7)) (HOK : Hid y.ok)
    (HN : Hid (O.names.length ≤ 10 ∧ O.links.length ≤ 10 ∧ O.custom.length ≤ 10))
    (hq : pickN y.kind 9 = 6)
    (h1 : ∀ a' w', (∃ u8 u9 u10 u11 u12 u13 u14 u15 u55 u56 u57 u58 u59 u60 u61 u62 u63 u64 u65 u66 u67 u68 u69 u70 u72 u73 u74 u75 u76 u77 u78 u79 u80 u81 u82 u83 u84 u85 u86 u87 u88 u89 u90 u91 u92 u93 u94 u95 u96 u97 u98 u99 u100 u101 u102 u103 u104 u105 u106 u107 u108 u109 u110 u111 u112 u113 u114 u115 u116 u117 u118 u119 u120 u121 u122 u123 u124 u125 u126 u127 u128 u129 u130 u131 u132 u133 u134 u135 u136 u137 u138 u139 u140 u141 u142 u143 u144 u145 u146 u147 u148 u149 u150 u151 u152 u153 u154 u155 u156 u157 u158 u159 u160 u161 u162 u163 u164 u165 u166 u167 u168 u169 u170 u171 u172 u173 u174 u175 u176 u177 u178 u179 u180 u181 u182 u183 u184 u185 u186 u187 u188 u189 u190 u191 u192 u193 u194 u195 u196 u197 u198 u199 u200 u201 u202 u203 u204 u205 u206 u207 u208 u209 u210 u211 u212 u213 u214 u215 u216 u217 u218 u219 : Value, (∃ s', HObj w w' x b0 b5 (objStep O y) s') ∧ a' = ⟨#[sl0, sl1, sl2, sl3, sl4, .pointer (some ⟨b5, 0, none⟩), sl6, .pointer (some ⟨b7, 0, none⟩), u8, u9, u10, u11, u12, u13, u14, u15, sl16, sl17, sl18, sl19, sl20, sl21, sl22, sl23, sl24, sl25, sl26, sl27, sl28, sl29, sl30, sl31, sl32, sl33, sl34, sl35, sl36, sl37, sl38, sl39, sl40, sl41, sl42, sl43, sl44, sl45, sl46, sl47, sl48, sl49, sl50, sl51, sl52, sl53, sl54, u55, u56, u57, u58, u59, u60, u61, u62, u63, u64, u65, u66, u67, u68, u69, u70, .int .i64 6, u72, u73, u74, u75, u76, u77, u78, u79, u80, u81, u82, u83, u84, u85, u86, u87, u88, u89, u90, u91, u92, u93, u94, u95, u96, u97, u98, u99, u100, u101, u102, u103, u104, u105, u106, u107, u108, u109, u110, u111, u112, u113, u114, u115, u116, u117, u118, u119, u120, u121, u122, u123, u124, u125, u126, u127, u128, u129, u130, u131, u132, u133, u134, u135, u136, u137, u138, u139, u140, u141, u142, u143, u144, u145, u146, u147, u148, u149, u150, u151, u152, u153, u154, u155, u156, u157, u158, u159, u160, u161, u162, u163, u164, u165, u166, u167, u168, u169, u170, u171, u172, u173, u174, u175, u176, u177, u178, u179, u180, u181, u182, u183, u184, u185, u186, u187, u188, u189, u190, u191, u192, u193, u194, u195, u196, u197, u198, u199, u200, u201, u202, u203, u204, u205, u206, u207, u208, u209, u210, u211, u212, u213, u214, u215, u216, u217, u218, u219, sl220, sl221, sl222, sl223, sl224, sl225, sl226, sl227, sl228], []⟩) → J a' w') (h2 : ∀ a' w', Met J a' w' → K' a' w') :
    Code.wp Tryd.prog objSw (Exit.then K' Q') ⟨#[sl0, sl1, sl2, sl3, sl4, .pointer (some ⟨b5, 0, none⟩), sl6, .pointer (some ⟨b7, 0, none⟩), sl8, sl9, sl10, sl11, sl12, sl13, sl14, sl15, sl16, sl17, sl18, sl19, sl20, sl21, sl22, sl23, sl24, sl25, sl26, sl27, sl28, sl29, sl30, sl31, sl32, sl33, sl34, sl35, sl36, sl37, sl38, sl39, sl40, sl41, sl42, sl43, sl44, sl45, sl46, sl47, sl48, sl49, sl50, sl51, sl52, sl53, sl54, sl55, sl56, sl57, sl58, sl59, sl60, sl61, sl62, sl63, sl64, sl65, sl66, sl67, sl68, sl69, sl70, .int .i64 6, sl72, sl73, sl74, sl75, sl76, sl77, sl78, sl79, sl80, sl81, sl82, sl83, sl84, sl85, sl86, sl87, sl88, sl89, sl90, sl91, sl92, sl93, sl94, sl95, sl96, sl97, sl98, sl99, sl100, sl101, sl102, sl103, sl104, sl105, sl106, sl107, sl108, sl109, sl110, sl111, sl112, sl113, sl114, sl115, sl116, sl117, sl118, sl119, sl120, sl121, sl122, sl123, sl124, sl125, sl126, sl127, sl128, sl129, sl130, sl131, sl132, sl133, sl134, sl135, sl136, sl137, sl138, sl139, sl140, sl141, sl142, sl143, sl144, sl145, sl146, sl147, sl148, sl149, sl150, sl151, sl152, sl153, sl154, sl155, sl156, sl157, sl158, sl159, sl160, sl161, sl162, sl163, sl164, sl165, sl166, sl167, sl168, sl169, sl170, sl171, sl172, sl173, sl174, sl175, sl176, sl177, sl178, sl179, sl180, sl181, sl182, sl183, sl184, sl185, sl186, sl187, sl188, sl189, sl190, sl191, sl192, sl193, sl194, sl195, sl196, sl197, sl198, sl199, sl200, sl201, sl202, sl203, sl204, sl205, sl206, sl207, sl208, sl209, sl210, sl211, sl212, sl213, sl214, sl215, sl216, sl217, sl218, sl219, sl220, sl221, sl222, sl223, sl224, sl225, sl226, sl227, sl228], []⟩ W := by
  conv => arg 2; whnf
  have HS : Hid (objStep O y = if custMem (custOf y) O.custom = true ∨ 6 ≤ O.custom.length then O else { O with custom := O.custom ++ [custOf y] }) := by simp [objStep, hq, Hid]
  clear hq
  go_upto_region 30 with (fail)
  refine wp_region_each 12 [.eq (.agg (strsA custNL)), .eq (.pointer (some ⟨b7, 1, none⟩)), .eq (.int .i64 y.a), .eq (.int .i64 (pick y.a 2)), .eq (.string (custOf y).1), .eq (.agg (strsA custTL)), .eq (.pointer (some ⟨b7, 2, none⟩)), .eq (.int .i64 y.b), .eq (.int .i64 (pick y.b 4)), .eq (.string (custOf y).2), .eq (.agg #[.string (custOf y).1, .string (custOf y).2]), stPair W.heap.size 60] (by kernel_rfl) (by kernel_rfl) (by kernel_rfl) (by kernel_rfl) ?_ ?_
  · as_aux_lemma =>
      refine each_c (o' := _) ?_ (each_c (o' := _) ?_ (each_c (o' := _) ?_ (each_c (o' := _) ?_ (each_c (o' := _) ?_ (each_c (o' := _) ?_ (each_c (o' := _) ?_ (each_c (o' := _) ?_ (each_c (o' := _) ?_ (each_c (o' := _) ?_ (each_c (o' := _) ?_ (each_c (o' := _) ?_ (each_n))))))))))))
      -- 0: build 57 [(0, b'x-a'), (1, b'x-b')]
      · intro w1 hg Ar seen
        refine does_plain rfl fun K Q' hK => ?_
        refine wp_build_obj _ _ rfl #[(0, .string ⟨#[120, 45, 97]⟩), (1, .string ⟨#[120, 45, 98]⟩)] (by simp [Act.eval]) _ (by show Eq _ (Result.ok (Value.agg (strsA custNL)) _); kernel_rfl) ?_
        exact hK _ _ (Grow.refl _) rfl
      -- 1: fieldAddr 23 t7 1
      · intro w1 hg Ar seen
        have s7 := seen.slot 7 (v := .pointer (some ⟨b7, 0, none⟩)) (by kernel_rfl) rfl
        refine does_plain rfl fun K Q' hK => ?_
        go_simp; exact hK _ _ (Grow.refl _) rfl
      -- 2: load 3 t166
      · intro w1 hg Ar seen
        obtain ⟨v1, e1, h1⟩ := seen.dep 1 (d := 166) (by kernel_rfl) (by kernel_rfl) rfl
        rcases h1 with rfl
        refine does_plain rfl fun K Q' hK => ?_
        have hc := cell_of_block (j := 1) ((hg.block _ (block_lt RY.out)).trans RY.out) rfl
        go_simp; exact hK _ _ (Grow.refl _) rfl
      -- 3: call fn8<locksmithhand.Pick> [t167, 2:i64] T[3, 3]
      · intro w1 hg Ar seen
        obtain ⟨v2, e2, h2⟩ := seen.dep 2 (d := 167) (by kernel_rfl) (by kernel_rfl) rfl
        rcases h2 with rfl
        refine does_plain rfl fun K Q' hK => ?_
        go_simp
        refine (pick_any (y.a) 2 _ (by omega) (by omega)).mono ?_
        rintro e u ⟨rfl, rfl⟩
        exact hK _ _ (Grow.refl _) rfl
      -- 4: index 57 t165 t168
      · intro w1 hg Ar seen
        obtain ⟨v0, e0, h0⟩ := seen.dep 0 (d := 165) (by kernel_rfl) (by kernel_rfl) rfl
        rcases h0 with rfl
        obtain ⟨v3, e3, h3⟩ := seen.dep 3 (d := 168) (by kernel_rfl) (by kernel_rfl) rfl
        rcases h3 with rfl
        refine does_plain rfl fun K Q' hK => ?_
        refine wp_index_row _ _ rfl Tryd.underlying57 sizeStr Tryd.underlying9 rfl (strsA custNL) (by simp [Act.eval, e0]) _ (by simp [Act.eval, e3]) (pickN y.a 2) (pickN_eq _ _ (by omega)) _ (pickN_lt _ 2 (by omega)) (strsA_get custNL _ (pickN_lt _ 2 (by omega))) ?_
        exact hK _ _ (Grow.refl _) rfl
      -- 5: build 58 [(0, b'one'), (1, b'two'), (2, b'three'), (3, b'four')]
      · intro w1 hg Ar seen
        refine does_plain rfl fun K Q' hK => ?_
        refine wp_build_obj _ _ rfl #[(0, .string ⟨#[111, 110, 101]⟩), (1, .string ⟨#[116, 119, 111]⟩), (2, .string ⟨#[116, 104, 114, 101, 101]⟩), (3, .string ⟨#[102, 111, 117, 114]⟩)] (by simp [Act.eval]) _ (by show Eq _ (Result.ok (Value.agg (strsA custTL)) _); kernel_rfl) ?_
        exact hK _ _ (Grow.refl _) rfl
      -- 6: fieldAddr 23 t7 2
      · intro w1 hg Ar seen
        have s7 := seen.slot 7 (v := .pointer (some ⟨b7, 0, none⟩)) (by kernel_rfl) rfl
        refine does_plain rfl fun K Q' hK => ?_
        go_simp; exact hK _ _ (Grow.refl _) rfl
      -- 7: load 3 t171
      · intro w1 hg Ar seen
        obtain ⟨v6, e6, h6⟩ := seen.dep 6 (d := 171) (by kernel_rfl) (by kernel_rfl) rfl
        rcases h6 with rfl
        refine does_plain rfl fun K Q' hK => ?_
        have hc := cell_of_block (j := 2) ((hg.block _ (block_lt RY.out)).trans RY.out) rfl
        go_simp; exact hK _ _ (Grow.refl _) rfl
      -- 8: call fn8<locksmithhand.Pick> [t172, 4:i64] T[3, 3]
      · intro w1 hg Ar seen
        obtain ⟨v7, e7, h7⟩ := seen.dep 7 (d := 172) (by kernel_rfl) (by kernel_rfl) rfl
        rcases h7 with rfl
        refine does_plain rfl fun K Q' hK => ?_
        go_simp
        refine (pick_any (y.b) 4 _ (by omega) (by omega)).mono ?_
        rintro e u ⟨rfl, rfl⟩
        exact hK _ _ (Grow.refl _) rfl
      -- 9: index 58 t170 t173
      · intro w1 hg Ar seen
        obtain ⟨v5, e5, h5⟩ := seen.dep 5 (d := 170) (by kernel_rfl) (by kernel_rfl) rfl
        rcases h5 with rfl
        obtain ⟨v8, e8, h8⟩ := seen.dep 8 (d := 173) (by kernel_rfl) (by kernel_rfl) rfl
        rcases h8 with rfl
        refine does_plain rfl fun K Q' hK => ?_
        refine wp_index_row _ _ rfl Tryd.underlying58 sizeStr Tryd.underlying9 rfl (strsA custTL) (by simp [Act.eval, e5]) _ (by simp [Act.eval, e8]) (pickN y.b 4) (pickN_eq _ _ (by omega)) _ (pickN_lt _ 4 (by omega)) (strsA_get custTL _ (pickN_lt _ 4 (by omega))) ?_
        exact hK _ _ (Grow.refl _) rfl
      -- 10: build 60 [(0, t169), (1, t174)]
      · intro w1 hg Ar seen
        obtain ⟨v4, e4, h4⟩ := seen.dep 4 (d := 169) (by kernel_rfl) (by kernel_rfl) rfl
        rcases h4 with rfl
        obtain ⟨v9, e9, h9⟩ := seen.dep 9 (d := 174) (by kernel_rfl) (by kernel_rfl) rfl
        rcases h9 with rfl
        refine does_plain rfl fun K Q' hK => ?_
        go_simp; exact hK _ _ (Grow.refl _) rfl
      -- 11: alloc 60
      · intro w1 hg Ar seen
        refine does_plain rfl fun K Q' hK => ?_
        go_simp
        exact hK _ _ ((Below.refl _ _).alloc (Nat.le_refl _) _) ⟨_, _, rfl, block_new _ _, rfl, hg.size⟩
  intro w1 hg
  refine upon_w' (js := [0, 1, 2, 3, 4, 5, 6, 7, 8, 9, 10, 11]) (by rfl) ?_
  refine upon_c (x := some 165) (by kernel_rfl) rfl fun v0 h0 => ?_
  rcases h0 with rfl
  refine upon_c (x := some 166) (by kernel_rfl) rfl fun v1 h1 => ?_
  rcases h1 with rfl
  refine upon_c (x := some 167) (by kernel_rfl) rfl fun v2 h2 => ?_
  rcases h2 with rfl
  refine upon_c (x := some 168) (by kernel_rfl) rfl fun v3 h3 => ?_
  rcases h3 with rfl
  refine upon_c (x := some 169) (by kernel_rfl) rfl fun v4 h4 => ?_
  rcases h4 with rfl
  refine upon_c (x := some 170) (by kernel_rfl) rfl fun v5 h5 => ?_
  rcases h5 with rfl
  refine upon_c (x := some 171) (by kernel_rfl) rfl fun v6 h6 => ?_
  rcases h6 with rfl
  refine upon_c (x := some 172) (by kernel_rfl) rfl fun v7 h7 => ?_
  rcases h7 with rfl
  refine upon_c (x := some 173) (by kernel_rfl) rfl fun v8 h8 => ?_
  rcases h8 with rfl
  refine upon_c (x := some 174) (by kernel_rfl) rfl fun v9 h9 => ?_
  rcases h9 with rfl
  refine upon_c (x := some 175) (by kernel_rfl) rfl fun v10 h10 => ?_
  rcases h10 with rfl
  refine upon_c (x := some 13) (by kernel_rfl) rfl fun v11 h11 => ?_
  refine upon_n ?_
  go_simp
  obtain ⟨p, C, rfl, hp, hC, hlp⟩ := h11
  obtain ⟨z0, z1, rfl⟩ := pair_cells hC
  go_simp
  have hq0 := cell_of_block (j := 0) hp rfl
  have hq1 := cell_of_block (j := 1) hp rfl
  have hfz : ∀ j, w1.frozen? ⟨p, j, none⟩ = false := fun j => frozen_of_block hp
  have HPB := hid hp; have HLP := hid hlp; have HGG := hid hg
  clear hp hlp hg hC
  go_upto_block 5 with (fail)
  have H2 := hid (HW.out.below ((HGG.out.setCell (p := ⟨p, 0, none⟩) HLP.out (.string (custOf y).1)).setCell (p := ⟨p, 1, none⟩) HLP.out (.string (custOf y).2)))
  have RP := hid (block_setCell (j := 1) (block_setCell (j := 0) HPB.out (.string (custOf y).1)) (.string (custOf y).2))
  clear HPB HLP HGG HW hq0 hq1 hfz RY NE NE7
  generalize (w1.setCell ⟨p, 0, none⟩ (.string (custOf y).1)).setCell ⟨p, 1, none⟩ (.string (custOf y).2) = W2 at *
  have hll : O.custom.length = s.custom.n := by have := H2.out.custom.1; unfold custCells at this; rw [flat_len] at this; omega
  have hs10 : s.custom.n ≤ 10 := by have := HN.out; omega
  have HLL := hid hll; clear hll
  go_cut [14] from 72 to 219 (fun u wx => u = .bool (custMem (custOf y) O.custom) ∧ Below W2.heap.size W2 wx)
  case first =>
    go_wp2_with fail
    go_loopw [14, 15] (fun u v wr => ∃ k : Nat, k ≤ s.custom.n ∧ u = .bool (custMem (custOf y) (O.custom.take k)) ∧ v = .int .i64 k ∧ Below W2.heap.size W2 wr) (fun _ v _ => s.custom.n - (intOf v).toNat)
    case atStart => exact ⟨0, Nat.zero_le _, rfl, rfl, Below.refl _ _⟩
    case round =>
      obtain ⟨k, hk, rfl, rfl, hgr⟩ := hrel
      have HG := hid hgr; clear hgr
      have HQ := hid (H2.out.below HG.out)
      have RQ := hid ((HG.out.block _ (block_lt RP.out)).trans RP.out)
      have ca := HQ.out.cell (oc31 O s)
      by_cases hlt : k < s.custom.n
      · obtain ⟨ba, oa, z, ha, hz, hc1, hc2⟩ := (SlR.of_own HQ.out.custom (by omega)).pair hlt
        have HE : Hid (custMem (custOf y) (O.custom.take (k + 1)) = (custMem (custOf y) (O.custom.take k) || (strEq (z).1 (custOf y).1 && strEq (z).2 (custOf y).2))) := by
          show _ = _
          unfold custMem
          rw [List.take_add_one, hz]
          simp [List.any_append]
        rw [ha] at ca
        have CA := hid ca; have C1 := hid hc1; have C2 := hid hc2
        clear ca ha hz hc1 hc2
        have ca' := CA.out
        go_upto_region 35 with (fail)
        clear ca'
        cases hm : custMem (custOf y) (O.custom.take k) with
        | true =>
          rw [hm] at HE
          refine wp_region_each 10 [.eq (.bool true), .eq (.bool true), .eq undef, .eq undef, .eq undef, .eq undef, .eq undef, .eq undef, .eq undef, .eq (.bool true)] (by kernel_rfl) (by kernel_rfl) (by kernel_rfl) (by kernel_rfl) ?_ ?_
          · as_aux_lemma =>
              refine each_c (o' := _) ?_ (each_c (o' := _) ?_ (each_c (o' := _) ?_ (each_c (o' := _) ?_ (each_c (o' := _) ?_ (each_c (o' := _) ?_ (each_c (o' := _) ?_ (each_c (o' := _) ?_ (each_c (o' := _) ?_ (each_c (o' := _) ?_ (each_n))))))))))
              -- 0: move t14
              · intro w1 hg Ar seen
                have s14 := seen.slot 14 (v := .bool true) (by kernel_rfl) rfl
                refine does_plain rfl fun K Q' hK => ?_
                go_simp; exact hK _ _ (Grow.refl _) rfl
              -- 1: move t183
              · intro w1 hg Ar seen
                obtain ⟨v0, e0, h0⟩ := seen.dep 0 (d := 183) (by kernel_rfl) (by kernel_rfl) rfl
                rcases h0 with rfl
                refine does_plain rfl fun K Q' hK => ?_
                go_simp; exact hK _ _ (Grow.refl _) rfl
              -- 2: fieldAddr 35 t5 12
              · intro w1 hg Ar seen
                obtain ⟨v1, e1, h1⟩ := seen.dep 1 (d := 184) (by kernel_rfl) (by kernel_rfl) rfl
                rcases h1 with rfl
                exact does_off rfl (by kernel_rfl) e1 ne_tf (Grow.refl _) rfl
              -- 3: load 31 t185
              · intro w1 hg Ar seen
                obtain ⟨v1, e1, h1⟩ := seen.dep 1 (d := 184) (by kernel_rfl) (by kernel_rfl) rfl
                rcases h1 with rfl
                exact does_off rfl (by kernel_rfl) e1 ne_tf (Grow.refl _) rfl
              -- 4: move t15
              · intro w1 hg Ar seen
                obtain ⟨v1, e1, h1⟩ := seen.dep 1 (d := 184) (by kernel_rfl) (by kernel_rfl) rfl
                rcases h1 with rfl
                exact does_off rfl (by kernel_rfl) e1 ne_tf (Grow.refl _) rfl
              -- 5: indexAddr 31 t186 t187
              · intro w1 hg Ar seen
                obtain ⟨v1, e1, h1⟩ := seen.dep 1 (d := 184) (by kernel_rfl) (by kernel_rfl) rfl
                rcases h1 with rfl
                exact does_off rfl (by kernel_rfl) e1 ne_tf (Grow.refl _) rfl
              -- 6: load 60 t188
              · intro w1 hg Ar seen
                obtain ⟨v1, e1, h1⟩ := seen.dep 1 (d := 184) (by kernel_rfl) (by kernel_rfl) rfl
                rcases h1 with rfl
                exact does_off rfl (by kernel_rfl) e1 ne_tf (Grow.refl _) rfl
              -- 7: load 60 t13
              · intro w1 hg Ar seen
                obtain ⟨v1, e1, h1⟩ := seen.dep 1 (d := 184) (by kernel_rfl) (by kernel_rfl) rfl
                rcases h1 with rfl
                exact does_off rfl (by kernel_rfl) e1 ne_tf (Grow.refl _) rfl
              -- 8: binOp BinOp.eql 60 t189 t190 60
              · intro w1 hg Ar seen
                obtain ⟨v1, e1, h1⟩ := seen.dep 1 (d := 184) (by kernel_rfl) (by kernel_rfl) rfl
                rcases h1 with rfl
                exact does_off rfl (by kernel_rfl) e1 ne_tf (Grow.refl _) rfl
              -- 9: pick t184 true t191
              · intro w1 hg Ar seen
                obtain ⟨v1, e1, h1⟩ := seen.dep 1 (d := 184) (by kernel_rfl) (by kernel_rfl) rfl
                rcases h1 with rfl
                obtain ⟨v8, e8, h8⟩ := seen.dep 8 (d := 191) (by kernel_rfl) (by kernel_rfl) rfl
                rcases h8 with rfl
                refine does_plain rfl fun K Q' hK => ?_
                go_simp; exact hK _ _ (Grow.refl _) rfl
          intro w1 hg
          refine upon_w' (js := [0, 1, 2, 3, 4, 5, 6, 7, 8, 9]) (by rfl) ?_
          refine upon_c (x := some 183) (by kernel_rfl) rfl fun v0 h0 => ?_
          rcases h0 with rfl
          refine upon_c (x := some 184) (by kernel_rfl) rfl fun v1 h1 => ?_
          rcases h1 with rfl
          refine upon_c (x := some 185) (by kernel_rfl) rfl fun v2 h2 => ?_
          rcases h2 with rfl
          refine upon_c (x := some 186) (by kernel_rfl) rfl fun v3 h3 => ?_
          rcases h3 with rfl
          refine upon_c (x := some 187) (by kernel_rfl) rfl fun v4 h4 => ?_
          rcases h4 with rfl
          refine upon_c (x := some 188) (by kernel_rfl) rfl fun v5 h5 => ?_
          rcases h5 with rfl
          refine upon_c (x := some 189) (by kernel_rfl) rfl fun v6 h6 => ?_
          rcases h6 with rfl
          refine upon_c (x := some 190) (by kernel_rfl) rfl fun v7 h7 => ?_
          rcases h7 with rfl
          refine upon_c (x := some 191) (by kernel_rfl) rfl fun v8 h8 => ?_
          rcases h8 with rfl
          refine upon_c (x := some 192) (by kernel_rfl) rfl fun v9 h9 => ?_
          rcases h9 with rfl
          refine upon_n ?_
          go_wp2_with fail
          go_roundw
          case rel =>
            have h1 : Value.bool true = .bool (custMem (custOf y) (O.custom.take (k + 1))) := by rw [HE.out]; rfl
            first | exact ⟨k + 1, by omega, h1, by go_num, HG.out.trans (Below.mono hg HG.out.size)⟩ | ((repeat apply Exists.intro); exact ⟨⟨k + 1, by omega, h1, by go_num, HG.out.trans (Below.mono hg HG.out.size)⟩, rfl⟩)
          case measure => simp [intOf]; omega
        | false =>
          rw [hm] at HE
          refine wp_region_each 10 [.eq (.bool false), .eq (.bool false), .eq (.pointer (some ⟨b5, 31, none⟩)), .eq (.slice (some ⟨ba, oa, none⟩) s.custom.n s.custom.c), .eq (.int .i64 (k : Int)), .eq (.pointer (some ⟨ba, oa + k * 2, none⟩)), .eq (.agg #[.string (z).1, .string (z).2]), .eq (.agg #[.string (custOf y).1, .string (custOf y).2]), .eq (.bool (strEq (z).1 (custOf y).1 && strEq (z).2 (custOf y).2)), .eq (.bool (strEq (z).1 (custOf y).1 && strEq (z).2 (custOf y).2))] (by kernel_rfl) (by kernel_rfl) (by kernel_rfl) (by kernel_rfl) ?_ ?_
          · as_aux_lemma =>
              refine each_c (o' := _) ?_ (each_c (o' := _) ?_ (each_c (o' := _) ?_ (each_c (o' := _) ?_ (each_c (o' := _) ?_ (each_c (o' := _) ?_ (each_c (o' := _) ?_ (each_c (o' := _) ?_ (each_c (o' := _) ?_ (each_c (o' := _) ?_ (each_n))))))))))
              -- 0: move t14
              · intro w1 hg Ar seen
                have s14 := seen.slot 14 (v := .bool false) (by kernel_rfl) rfl
                refine does_plain rfl fun K Q' hK => ?_
                go_simp; exact hK _ _ (Grow.refl _) rfl
              -- 1: move t183
              · intro w1 hg Ar seen
                obtain ⟨v0, e0, h0⟩ := seen.dep 0 (d := 183) (by kernel_rfl) (by kernel_rfl) rfl
                rcases h0 with rfl
                refine does_plain rfl fun K Q' hK => ?_
                go_simp; exact hK _ _ (Grow.refl _) rfl
              -- 2: fieldAddr 35 t5 12
              · intro w1 hg Ar seen
                obtain ⟨v1, e1, h1⟩ := seen.dep 1 (d := 184) (by kernel_rfl) (by kernel_rfl) rfl
                rcases h1 with rfl
                have s5 := seen.slot 5 (v := .pointer (some ⟨b5, 0, none⟩)) (by kernel_rfl) rfl
                refine does_on rfl (by kernel_rfl) e1 fun K Q' hK => ?_
                clear e1
                go_simp; exact hK _ _ (Grow.refl _) rfl
              -- 3: load 31 t185
              · intro w1 hg Ar seen
                obtain ⟨v2, e2, h2⟩ := seen.dep 2 (d := 185) (by kernel_rfl) (by kernel_rfl) rfl
                rcases h2 with rfl
                obtain ⟨v1, e1, h1⟩ := seen.dep 1 (d := 184) (by kernel_rfl) (by kernel_rfl) rfl
                rcases h1 with rfl
                refine does_on rfl (by kernel_rfl) e1 fun K Q' hK => ?_
                clear e1
                have hc := cell_later hg CA.out
                go_simp; exact hK _ _ (Grow.refl _) rfl
              -- 4: move t15
              · intro w1 hg Ar seen
                obtain ⟨v1, e1, h1⟩ := seen.dep 1 (d := 184) (by kernel_rfl) (by kernel_rfl) rfl
                rcases h1 with rfl
                have s15 := seen.slot 15 (v := .int .i64 (k : Int)) (by kernel_rfl) rfl
                refine does_on rfl (by kernel_rfl) e1 fun K Q' hK => ?_
                clear e1
                go_simp; exact hK _ _ (Grow.refl _) rfl
              -- 5: indexAddr 31 t186 t187
              · intro w1 hg Ar seen
                obtain ⟨v3, e3, h3⟩ := seen.dep 3 (d := 186) (by kernel_rfl) (by kernel_rfl) rfl
                rcases h3 with rfl
                obtain ⟨v4, e4, h4⟩ := seen.dep 4 (d := 187) (by kernel_rfl) (by kernel_rfl) rfl
                rcases h4 with rfl
                obtain ⟨v1, e1, h1⟩ := seen.dep 1 (d := 184) (by kernel_rfl) (by kernel_rfl) rfl
                rcases h1 with rfl
                refine does_on rfl (by kernel_rfl) e1 fun K Q' hK => ?_
                clear e1
                go_simp; exact hK _ _ (Grow.refl _) rfl
              -- 6: load 60 t188
              · intro w1 hg Ar seen
                obtain ⟨v5, e5, h5⟩ := seen.dep 5 (d := 188) (by kernel_rfl) (by kernel_rfl) rfl
                rcases h5 with rfl
                obtain ⟨v1, e1, h1⟩ := seen.dep 1 (d := 184) (by kernel_rfl) (by kernel_rfl) rfl
                rcases h1 with rfl
                refine does_on rfl (by kernel_rfl) e1 fun K Q' hK => ?_
                clear e1
                have hc := cell_later hg C1.out; have hc2 := cell_later hg C2.out
                go_simp; exact hK _ _ (Grow.refl _) rfl
              -- 7: load 60 t13
              · intro w1 hg Ar seen
                obtain ⟨v1, e1, h1⟩ := seen.dep 1 (d := 184) (by kernel_rfl) (by kernel_rfl) rfl
                rcases h1 with rfl
                have s13 := seen.slot 13 (v := .pointer (some ⟨p, 0, none⟩)) (by kernel_rfl) rfl
                refine does_on rfl (by kernel_rfl) e1 fun K Q' hK => ?_
                clear e1
                have hc := cell_of_block (j := 0) ((hg.block _ (block_lt RQ.out)).trans RQ.out) rfl; have hc2 := cell_of_block (j := 1) ((hg.block _ (block_lt RQ.out)).trans RQ.out) rfl
                go_simp; exact hK _ _ (Grow.refl _) rfl
              -- 8: binOp BinOp.eql 60 t189 t190 60
              · intro w1 hg Ar seen
                obtain ⟨v6, e6, h6⟩ := seen.dep 6 (d := 189) (by kernel_rfl) (by kernel_rfl) rfl
                rcases h6 with rfl
                obtain ⟨v7, e7, h7⟩ := seen.dep 7 (d := 190) (by kernel_rfl) (by kernel_rfl) rfl
                rcases h7 with rfl
                obtain ⟨v1, e1, h1⟩ := seen.dep 1 (d := 184) (by kernel_rfl) (by kernel_rfl) rfl
                rcases h1 with rfl
                refine does_on rfl (by kernel_rfl) e1 fun K Q' hK => ?_
                clear e1
                have he := fun w => eqCustB 9998 z (custOf y) w
                go_simp; exact hK _ _ (Grow.refl _) rfl
              -- 9: pick t184 true t191
              · intro w1 hg Ar seen
                obtain ⟨v1, e1, h1⟩ := seen.dep 1 (d := 184) (by kernel_rfl) (by kernel_rfl) rfl
                rcases h1 with rfl
                obtain ⟨v8, e8, h8⟩ := seen.dep 8 (d := 191) (by kernel_rfl) (by kernel_rfl) rfl
                rcases h8 with rfl
                refine does_plain rfl fun K Q' hK => ?_
                go_simp; exact hK _ _ (Grow.refl _) rfl
          intro w1 hg
          refine upon_w' (js := [0, 1, 2, 3, 4, 5, 6, 7, 8, 9]) (by rfl) ?_
          refine upon_c (x := some 183) (by kernel_rfl) rfl fun v0 h0 => ?_
          rcases h0 with rfl
          refine upon_c (x := some 184) (by kernel_rfl) rfl fun v1 h1 => ?_
          rcases h1 with rfl
          refine upon_c (x := some 185) (by kernel_rfl) rfl fun v2 h2 => ?_
          rcases h2 with rfl
          refine upon_c (x := some 186) (by kernel_rfl) rfl fun v3 h3 => ?_
          rcases h3 with rfl
          refine upon_c (x := some 187) (by kernel_rfl) rfl fun v4 h4 => ?_
          rcases h4 with rfl
          refine upon_c (x := some 188) (by kernel_rfl) rfl fun v5 h5 => ?_
          rcases h5 with rfl
          refine upon_c (x := some 189) (by kernel_rfl) rfl fun v6 h6 => ?_
          rcases h6 with rfl
          refine upon_c (x := some 190) (by kernel_rfl) rfl fun v7 h7 => ?_
          rcases h7 with rfl
          refine upon_c (x := some 191) (by kernel_rfl) rfl fun v8 h8 => ?_
          rcases h8 with rfl
          refine upon_c (x := some 192) (by kernel_rfl) rfl fun v9 h9 => ?_
          rcases h9 with rfl
          refine upon_n ?_
          go_wp2_with fail
          go_roundw
          case rel =>
            have h1 : Value.bool (strEq (z).1 (custOf y).1 && strEq (z).2 (custOf y).2) = .bool (custMem (custOf y) (O.custom.take (k + 1))) := by rw [HE.out]; rfl
            first | exact ⟨k + 1, by omega, h1, by go_num, HG.out.trans (Below.mono hg HG.out.size)⟩ | ((repeat apply Exists.intro); exact ⟨⟨k + 1, by omega, h1, by go_num, HG.out.trans (Below.mono hg HG.out.size)⟩, rfl⟩)
          case measure => simp [intOf]; omega
      · obtain rfl : k = s.custom.n := by omega
        go_wp2_with fail
        go_meet
        exact ⟨by rw [List.take_of_length_le (by rw [HLL.out]; exact Nat.le_refl _)], HG.out⟩
  case rest =>
    obtain ⟨rfl, hbx⟩ := hcut
    have H3 := hid (H2.out.below hbx)
    have RP3 := hid ((hbx.block _ (block_lt RP.out)).trans RP.out)
    clear H2 RP hbx
    cases hm : custMem (custOf y) O.custom with
    | true =>
      have HC := True.intro
      have HS2 : Hid (objStep O y = O) := by have := HS.out; simpa [Hid, hm, HC] using this
      have c30 := H3.out.cell (oc31 O s)
      go_wp2_with fail
      go_meet
      rw [HS2.out]
      exact ⟨s, H3.out⟩
    | false =>
      by_cases HC0 : s.custom.n < 6
      · have HC : ¬ (6 ≤ O.custom.length) := by rw [HLL.out]; omega
        have HS2 : Hid (objStep O y = { O with custom := O.custom ++ [custOf y] }) := by have := HS.out; simpa [Hid, hm, HC] using this
        obtain ⟨i, hi, hz0, hz1, hz2⟩ := info_parts oInfoC
        have c30 := H3.out.cell (oc31 O s)
        have p0 := cell_of_block (j := 0) RP3.out rfl
        have p1 := cell_of_block (j := 1) RP3.out rfl
        go_wp2_with (at_builtin
                     go_must (refine wpList_append_c rfl _ _ 31 rfl (b5 + 1) 60 i _ 2 32 Tryd.underlying31 hi hz0 hz1 hz2 rfl (by decide) s.custom.v s.custom.n _ rfl (((Chg.refl [] _).alloc _).owns H3.out.custom (fun k _ hm => by cases hm)) _ 1 _ [.string (custOf y).1, .string (custOf y).2] rfl (RdC.new _ _ _ _ [.string (custOf y).1, .string (custOf y).2] rfl 2 rfl _ (by simp)) (cust_one [custOf y]) (fun hx => by cases hx) (by unfold maxLen; omega) (by omega) (by have := H3.out.size; simp; omega) ?_)
                     intro a' c' w3 hown hgw hfr
                     have HO3 := hid hown; have HG4 := hid hgw; clear hown hgw hfr
                     have h3 := H3.out.grown5 H3.out.custom HG4.out
                     have hc30 := cell_of_block h3 (oc31 O s)
                     have hfz : ∀ j, w3.frozen? ⟨b5, j, none⟩ = false := fun j => frozen_of_block h3
                     clear h3)
        go_meet
        rw [HS2.out]
        exact ⟨_, H3.out.app_custom (custOf y) _ a' _ c' HG4.out (by unfold custCells; rw [List.flatMap_append]; exact HO3.out)⟩
      · have HC : 6 ≤ O.custom.length := by rw [HLL.out]; omega
        have HS2 : Hid (objStep O y = O) := by have := HS.out; simpa [Hid, hm, HC] using this
        have c30 := H3.out.cell (oc31 O s)
        go_wp2_with fail
        go_meet
        rw [HS2.out]
        exact ⟨s, H3.out⟩
end Go.Proofs.YtgenbpndphdgnaaDoor
