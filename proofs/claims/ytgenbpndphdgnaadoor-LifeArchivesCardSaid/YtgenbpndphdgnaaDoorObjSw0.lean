/- locksmithhand.Object: case 0 of its switch. -/
import Derived.Test.YtgenbpndphdgnaaDoorObjMake2
namespace Go.Proofs.YtgenbpndphdgnaaDoor
open Go.RowKit
set_option linter.unusedVariables false
set_option linter.unusedSimpArgs false
set_option maxRecDepth 1000000
set_option maxHeartbeats 16000000
theorem obj_sw0 {w W : World} {x y : RawD} {b0 b5 b7 : Nat} {O : ObjD} {s : ObjV} (sl0 sl1 sl2 sl3 sl4 sl6 sl8 sl9 sl10 sl11 sl12 sl13 sl14 sl15 sl16 sl17 sl18 sl19 sl20 sl21 sl22 sl23 sl24 sl25 sl26 sl27 sl28 sl29 sl30 sl31 sl32 sl33 sl34 sl35 sl36 sl37 sl38 sl39 sl40 sl41 sl42 sl43 sl44 sl45 sl46 sl47 sl48 sl49 sl50 sl51 sl52 sl53 sl54 sl55 sl56 sl57 sl58 sl59 sl60 sl61 sl62 sl63 sl64 sl65 sl66 sl67 sl68 sl69 sl70 sl72 sl73 sl74 sl75 sl76 sl77 sl78 sl79 sl80 sl81 sl82 sl83 sl84 sl85 sl86 sl87 sl88 sl89 sl90 sl91 sl92 sl93 sl94 sl95 sl96 sl97 sl98 sl99 sl100 sl101 sl102 sl103 sl104 sl105 sl106 sl107 sl108 sl109 sl110 sl111 sl112 sl113 sl114 sl115 sl116 sl117 sl118 sl119 sl120 sl121 sl122 sl123 sl124 sl125 sl126 sl127 sl128 sl129 sl130 sl131 sl132 sl133 sl134 sl135 sl136 sl137 sl138 sl139 sl140 sl141 sl142 sl143 sl144 sl145 sl146 sl147 sl148 sl149 sl150 sl151 sl152 sl153 sl154 sl155 sl156 sl157 sl158 sl159 sl160 sl161 sl162 sl163 sl164 sl165 sl166 sl167 sl168 sl169 sl170 sl171 sl172 sl173 sl174 sl175 sl176 sl177 sl178 sl179 sl180 sl181 sl182 sl183 sl184 sl185 sl186 sl187 sl188 sl189 sl190 sl191 sl192 sl193 sl194 sl195 sl196 sl197 sl198 sl199 sl200 sl201 sl202 sl203 sl204 sl205 sl206 sl207 sl208 sl209 sl210 sl211 sl212 sl213 sl214 sl215 sl216 sl217 sl218 sl219 sl220 sl221 sl222 sl223 sl224 sl225 sl226 sl227 sl228 : Value) (J K' : Act → World → Prop) (Q' : Exit → Act → World → Prop)
    (HW : Hid (HObj w W x b0 b5 O s)) (RY : Hid (W.heap[b7]? = some (.cells #[.int .i64 y.kind, .int .i64 y.a, .int .i64 y.b, .int .i64 y.c] 23 (0, 0)))) (NE7 : Hid (b7 ≠ b5)) (NE : Hid (b5 < b7)) (HOK : Hid y.ok)
    (HN : Hid (O.names.length ≤ 10 ∧ O.links.length ≤ 10 ∧ O.custom.length ≤ 10))
    (hq : pickN y.kind 9 = 0)
    (h1 : ∀ a' w', (∃ u8 u9 u10 u11 u12 u13 u14 u15 u55 u56 u57 u58 u59 u60 u61 u62 u63 u64 u65 u66 u67 u68 u69 u70 u72 u73 u74 u75 u76 u77 u78 u79 u80 u81 u82 u83 u84 u85 u86 u87 u88 u89 u90 u91 u92 u93 u94 u95 u96 u97 u98 u99 u100 u101 u102 u103 u104 u105 u106 u107 u108 u109 u110 u111 u112 u113 u114 u115 u116 u117 u118 u119 u120 u121 u122 u123 u124 u125 u126 u127 u128 u129 u130 u131 u132 u133 u134 u135 u136 u137 u138 u139 u140 u141 u142 u143 u144 u145 u146 u147 u148 u149 u150 u151 u152 u153 u154 u155 u156 u157 u158 u159 u160 u161 u162 u163 u164 u165 u166 u167 u168 u169 u170 u171 u172 u173 u174 u175 u176 u177 u178 u179 u180 u181 u182 u183 u184 u185 u186 u187 u188 u189 u190 u191 u192 u193 u194 u195 u196 u197 u198 u199 u200 u201 u202 u203 u204 u205 u206 u207 u208 u209 u210 u211 u212 u213 u214 u215 u216 u217 u218 u219 : Value, (∃ s', HObj w w' x b0 b5 (objStep O y) s') ∧ a' = ⟨#[sl0, sl1, sl2, sl3, sl4, .pointer (some ⟨b5, 0, none⟩), sl6, .pointer (some ⟨b7, 0, none⟩), u8, u9, u10, u11, u12, u13, u14, u15, sl16, sl17, sl18, sl19, sl20, sl21, sl22, sl23, sl24, sl25, sl26, sl27, sl28, sl29, sl30, sl31, sl32, sl33, sl34, sl35, sl36, sl37, sl38, sl39, sl40, sl41, sl42, sl43, sl44, sl45, sl46, sl47, sl48, sl49, sl50, sl51, sl52, sl53, sl54, u55, u56, u57, u58, u59, u60, u61, u62, u63, u64, u65, u66, u67, u68, u69, u70, .int .i64 0, u72, u73, u74, u75, u76, u77, u78, u79, u80, u81, u82, u83, u84, u85, u86, u87, u88, u89, u90, u91, u92, u93, u94, u95, u96, u97, u98, u99, u100, u101, u102, u103, u104, u105, u106, u107, u108, u109, u110, u111, u112, u113, u114, u115, u116, u117, u118, u119, u120, u121, u122, u123, u124, u125, u126, u127, u128, u129, u130, u131, u132, u133, u134, u135, u136, u137, u138, u139, u140, u141, u142, u143, u144, u145, u146, u147, u148, u149, u150, u151, u152, u153, u154, u155, u156, u157, u158, u159, u160, u161, u162, u163, u164, u165, u166, u167, u168, u169, u170, u171, u172, u173, u174, u175, u176, u177, u178, u179, u180, u181, u182, u183, u184, u185, u186, u187, u188, u189, u190, u191, u192, u193, u194, u195, u196, u197, u198, u199, u200, u201, u202, u203, u204, u205, u206, u207, u208, u209, u210, u211, u212, u213, u214, u215, u216, u217, u218, u219, sl220, sl221, sl222, sl223, sl224, sl225, sl226, sl227, sl228], []⟩) → J a' w') (h2 : ∀ a' w', Met J a' w' → K' a' w') :
    Code.wp Tryd.prog objSw (Exit.then K' Q') ⟨#[sl0, sl1, sl2, sl3, sl4, .pointer (some ⟨b5, 0, none⟩), sl6, .pointer (some ⟨b7, 0, none⟩), sl8, sl9, sl10, sl11, sl12, sl13, sl14, sl15, sl16, sl17, sl18, sl19, sl20, sl21, sl22, sl23, sl24, sl25, sl26, sl27, sl28, sl29, sl30, sl31, sl32, sl33, sl34, sl35, sl36, sl37, sl38, sl39, sl40, sl41, sl42, sl43, sl44, sl45, sl46, sl47, sl48, sl49, sl50, sl51, sl52, sl53, sl54, sl55, sl56, sl57, sl58, sl59, sl60, sl61, sl62, sl63, sl64, sl65, sl66, sl67, sl68, sl69, sl70, .int .i64 0, sl72, sl73, sl74, sl75, sl76, sl77, sl78, sl79, sl80, sl81, sl82, sl83, sl84, sl85, sl86, sl87, sl88, sl89, sl90, sl91, sl92, sl93, sl94, sl95, sl96, sl97, sl98, sl99, sl100, sl101, sl102, sl103, sl104, sl105, sl106, sl107, sl108, sl109, sl110, sl111, sl112, sl113, sl114, sl115, sl116, sl117, sl118, sl119, sl120, sl121, sl122, sl123, sl124, sl125, sl126, sl127, sl128, sl129, sl130, sl131, sl132, sl133, sl134, sl135, sl136, sl137, sl138, sl139, sl140, sl141, sl142, sl143, sl144, sl145, sl146, sl147, sl148, sl149, sl150, sl151, sl152, sl153, sl154, sl155, sl156, sl157, sl158, sl159, sl160, sl161, sl162, sl163, sl164, sl165, sl166, sl167, sl168, sl169, sl170, sl171, sl172, sl173, sl174, sl175, sl176, sl177, sl178, sl179, sl180, sl181, sl182, sl183, sl184, sl185, sl186, sl187, sl188, sl189, sl190, sl191, sl192, sl193, sl194, sl195, sl196, sl197, sl198, sl199, sl200, sl201, sl202, sl203, sl204, sl205, sl206, sl207, sl208, sl209, sl210, sl211, sl212, sl213, sl214, sl215, sl216, sl217, sl218, sl219, sl220, sl221, sl222, sl223, sl224, sl225, sl226, sl227, sl228], []⟩ W := by
  conv => arg 2; whnf
  have HS : Hid (objStep O y = O.setDate (pickN y.a 10) (true, pick y.b 60)) := by simp [objStep, hq, Hid]
  clear hq
  have hq10 := pickN_lt y.a 10 (by omega)
  have hqe : pick y.a 10 = (pickN y.a 10 : Int) := pickN_eq y.a 10 (by omega)
  have HQE := hid hqe; clear hqe
  generalize pickN y.a 10 = q at *
  go_upto_region 12 with (fail)
  refine wp_region_each 9 [.eq (.pointer (some ⟨b7, 1, none⟩)), .eq (.int .i64 y.a), .eq (.int .i64 (q : Int)), .eq (.pointer (some ⟨b7, 2, none⟩)), .eq (.int .i64 y.b), .eq (.int .i64 (pick y.b 60)), .eq (.agg #[.bool true, .int .i64 (pick y.b 60)]), .eq (.pointer (some ⟨b5, 7, none⟩)), .eq (.pointer (some ⟨b5, 7 + q * 2, none⟩))] (by kernel_rfl) (by kernel_rfl) (by kernel_rfl) (by kernel_rfl) ?_ ?_
  · as_aux_lemma =>
      refine each_c (o' := _) ?_ (each_c (o' := _) ?_ (each_c (o' := _) ?_ (each_c (o' := _) ?_ (each_c (o' := _) ?_ (each_c (o' := _) ?_ (each_c (o' := _) ?_ (each_c (o' := _) ?_ (each_c (o' := _) ?_ (each_n)))))))))
      -- 0: fieldAddr 23 t7 1
      · intro w1 hg Ar seen
        have s7 := seen.slot 7 (v := .pointer (some ⟨b7, 0, none⟩)) (by kernel_rfl) rfl
        refine does_plain rfl fun K Q' hK => ?_
        go_simp; exact hK _ _ (Grow.refl _) rfl
      -- 1: load 3 t81
      · intro w1 hg Ar seen
        obtain ⟨v0, e0, h0⟩ := seen.dep 0 (d := 81) (by kernel_rfl) (by kernel_rfl) rfl
        rcases h0 with rfl
        refine does_plain rfl fun K Q' hK => ?_
        have hc := cell_of_block (j := 1) ((hg.block _ (block_lt RY.out)).trans RY.out) rfl
        go_simp; exact hK _ _ (Grow.refl _) rfl
      -- 2: call fn8<locksmithhand.Pick> [t82, 10:i64] T[3, 3]
      · intro w1 hg Ar seen
        obtain ⟨v1, e1, h1⟩ := seen.dep 1 (d := 82) (by kernel_rfl) (by kernel_rfl) rfl
        rcases h1 with rfl
        refine does_plain rfl fun K Q' hK => ?_
        go_simp
        refine (pick_any y.a 10 _ (by omega) (by omega)).mono ?_
        rintro e u ⟨rfl, rfl⟩
        rw [HQE.out]
        exact hK _ _ (Grow.refl _) rfl
      -- 3: fieldAddr 23 t7 2
      · intro w1 hg Ar seen
        have s7 := seen.slot 7 (v := .pointer (some ⟨b7, 0, none⟩)) (by kernel_rfl) rfl
        refine does_plain rfl fun K Q' hK => ?_
        go_simp; exact hK _ _ (Grow.refl _) rfl
      -- 4: load 3 t84
      · intro w1 hg Ar seen
        obtain ⟨v3, e3, h3⟩ := seen.dep 3 (d := 84) (by kernel_rfl) (by kernel_rfl) rfl
        rcases h3 with rfl
        refine does_plain rfl fun K Q' hK => ?_
        have hc := cell_of_block (j := 2) ((hg.block _ (block_lt RY.out)).trans RY.out) rfl
        go_simp; exact hK _ _ (Grow.refl _) rfl
      -- 5: call fn8<locksmithhand.Pick> [t85, 60:i64] T[3, 3]
      · intro w1 hg Ar seen
        obtain ⟨v4, e4, h4⟩ := seen.dep 4 (d := 85) (by kernel_rfl) (by kernel_rfl) rfl
        rcases h4 with rfl
        refine does_plain rfl fun K Q' hK => ?_
        go_simp
        refine (pick_any (y.b) 60 _ (by omega) (by omega)).mono ?_
        rintro e u ⟨rfl, rfl⟩
        exact hK _ _ (Grow.refl _) rfl
      -- 6: build 27 [(0, true), (1, t86)]
      · intro w1 hg Ar seen
        obtain ⟨v5, e5, h5⟩ := seen.dep 5 (d := 86) (by kernel_rfl) (by kernel_rfl) rfl
        rcases h5 with rfl
        refine does_plain rfl fun K Q' hK => ?_
        go_simp; exact hK _ _ (Grow.refl _) rfl
      -- 7: fieldAddr 35 t5 7
      · intro w1 hg Ar seen
        have s5 := seen.slot 5 (v := .pointer (some ⟨b5, 0, none⟩)) (by kernel_rfl) rfl
        refine does_plain rfl fun K Q' hK => ?_
        go_simp; exact hK _ _ (Grow.refl _) rfl
      -- 8: indexAddr 28 t88 t83
      · intro w1 hg Ar seen
        obtain ⟨v2, e2, h2⟩ := seen.dep 2 (d := 83) (by kernel_rfl) (by kernel_rfl) rfl
        rcases h2 with rfl
        obtain ⟨v7, e7, h7⟩ := seen.dep 7 (d := 88) (by kernel_rfl) (by kernel_rfl) rfl
        rcases h7 with rfl
        refine does_plain rfl fun K Q' hK => ?_
        have hqi : (q : Int) < 10 := by omega
        go_simp; exact hK _ _ (Grow.refl _) rfl
  intro w1 hg
  refine upon_w' (js := [0, 1, 2, 3, 4, 5, 6, 7, 8]) (by rfl) ?_
  refine upon_c (x := some 81) (by kernel_rfl) rfl fun v0 h0 => ?_
  rcases h0 with rfl
  refine upon_c (x := some 82) (by kernel_rfl) rfl fun v1 h1 => ?_
  rcases h1 with rfl
  refine upon_c (x := some 83) (by kernel_rfl) rfl fun v2 h2 => ?_
  rcases h2 with rfl
  refine upon_c (x := some 84) (by kernel_rfl) rfl fun v3 h3 => ?_
  rcases h3 with rfl
  refine upon_c (x := some 85) (by kernel_rfl) rfl fun v4 h4 => ?_
  rcases h4 with rfl
  refine upon_c (x := some 86) (by kernel_rfl) rfl fun v5 h5 => ?_
  rcases h5 with rfl
  refine upon_c (x := some 87) (by kernel_rfl) rfl fun v6 h6 => ?_
  rcases h6 with rfl
  refine upon_c (x := some 88) (by kernel_rfl) rfl fun v7 h7 => ?_
  rcases h7 with rfl
  refine upon_c (x := some 89) (by kernel_rfl) rfl fun v8 h8 => ?_
  rcases h8 with rfl
  refine upon_n ?_
  have h9 := HW.out.below hg
  have H9 := hid h9
  have hfz := h9.fz
  have cd1 := h9.cell (ocH O s q hq10)
  have cd2 := h9.cell (ocT O s q hq10)
  clear h9 hg
  go_wp2_with fail
  go_meet
  rw [HS.out]
  exact ⟨s, H9.out.date q hq10 true _⟩
end Go.Proofs.YtgenbpndphdgnaaDoor
