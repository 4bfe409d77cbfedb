/- locksmithhand.Object: case 7 of its switch. -/
import Derived.Test.YtgenbpndphdgnaaDoorObjMake2
namespace Go.Proofs.YtgenbpndphdgnaaDoor
open Go.RowKit
set_option linter.unusedVariables false
set_option linter.unusedSimpArgs false
set_option maxRecDepth 1000000
set_option maxHeartbeats 16000000
theorem obj_sw7 {w W : World} {x y : RawD} {b0 b5 b7 : Nat} {O : ObjD} {s : ObjV} (sl0 sl1 sl2 sl3 sl4 sl6 sl8 sl9 sl10 sl11 sl12 sl13 sl14 sl15 sl16 sl17 sl18 sl19 sl20 sl21 sl22 sl23 sl24 sl25 sl26 sl27 sl28 sl29 sl30 sl31 sl32 sl33 sl34 sl35 sl36 sl37 sl38 sl39 sl40 sl41 sl42 sl43 sl44 sl45 sl46 sl47 sl48 sl49 sl50 sl51 sl52 sl53 sl54 sl55 sl56 sl57 sl58 sl59 sl60 sl61 sl62 sl63 sl64 sl65 sl66 sl67 sl68 sl69 sl70 sl72 sl73 sl74 sl75 sl76 sl77 sl78 sl79 sl80 sl81 sl82 sl83 sl84 sl85 sl86 sl87 sl88 sl89 sl90 sl91 sl92 sl93 sl94 sl95 sl96 sl97 sl98 sl99 sl100 sl101 sl102 sl103 sl104 sl105 sl106 sl107 sl108 sl109 sl110 sl111 sl112 sl113 sl114 sl115 sl116 sl117 sl118 sl119 sl120 sl121 sl122 sl123 sl124 sl125 sl126 sl127 sl128 sl129 sl130 sl131 sl132 sl133 sl134 sl135 sl136 sl137 sl138 sl139 sl140 sl141 sl142 sl143 sl144 sl145 sl146 sl147 sl148 sl149 sl150 sl151 sl152 sl153 sl154 sl155 sl156 sl157 sl158 sl159 sl160 sl161 sl162 sl163 sl164 sl165 sl166 sl167 sl168 sl169 sl170 sl171 sl172 sl173 sl174 sl175 sl176 sl177 sl178 sl179 sl180 sl181 sl182 sl183 sl184 sl185 sl186 sl187 sl188 sl189 sl190 sl191 sl192 sl193 sl194 sl195 sl196 sl197 sl198 sl199 sl200 sl201 sl202 sl203 sl204 sl205 sl206 sl207 sl208 sl209 sl210 sl211 sl212 sl213 sl214 sl215 sl216 sl217 sl218 sl219 sl220 sl221 sl222 sl223 sl224 sl225 sl226 sl227 sl228 : Value) (J K' : Act → World → Prop) (Q' : Exit → Act → World → Prop)
    (HW : Hid (HObj w W x b0 b5 O s)) (RY : Hid (W.heap[b7]? = some (.cells #[.int .i64 y.kind, .int .i64 y.a, .int .i64 y.b, .int .i64 y.c] 23 (0, 0)))) (NE7 : Hid (b7 ≠ b5)) (NE : Hid (b5 < b7)) (HOK : Hid y.ok)
    (HN : Hid (O.names.length ≤ 10 ∧ O.links.length ≤ 10 ∧ O.custom.length ≤ 10))
    (hq : pickN y.kind 9 = 7)
    (h1 : ∀ a' w', (∃ u8 u9 u10 u11 u12 u13 u14 u15 u55 u56 u57 u58 u59 u60 u61 u62 u63 u64 u65 u66 u67 u68 u69 u70 u72 u73 u74 u75 u76 u77 u78 u79 u80 u81 u82 u83 u84 u85 u86 u87 u88 u89 u90 u91 u92 u93 u94 u95 u96 u97 u98 u99 u100 u101 u102 u103 u104 u105 u106 u107 u108 u109 u110 u111 u112 u113 u114 u115 u116 u117 u118 u119 u120 u121 u122 u123 u124 u125 u126 u127 u128 u129 u130 u131 u132 u133 u134 u135 u136 u137 u138 u139 u140 u141 u142 u143 u144 u145 u146 u147 u148 u149 u150 u151 u152 u153 u154 u155 u156 u157 u158 u159 u160 u161 u162 u163 u164 u165 u166 u167 u168 u169 u170 u171 u172 u173 u174 u175 u176 u177 u178 u179 u180 u181 u182 u183 u184 u185 u186 u187 u188 u189 u190 u191 u192 u193 u194 u195 u196 u197 u198 u199 u200 u201 u202 u203 u204 u205 u206 u207 u208 u209 u210 u211 u212 u213 u214 u215 u216 u217 u218 u219 : Value, (∃ s', HObj w w' x b0 b5 (objStep O y) s') ∧ a' = ⟨#[sl0, sl1, sl2, sl3, sl4, .pointer (some ⟨b5, 0, none⟩), sl6, .pointer (some ⟨b7, 0, none⟩), u8, u9, u10, u11, u12, u13, u14, u15, sl16, sl17, sl18, sl19, sl20, sl21, sl22, sl23, sl24, sl25, sl26, sl27, sl28, sl29, sl30, sl31, sl32, sl33, sl34, sl35, sl36, sl37, sl38, sl39, sl40, sl41, sl42, sl43, sl44, sl45, sl46, sl47, sl48, sl49, sl50, sl51, sl52, sl53, sl54, u55, u56, u57, u58, u59, u60, u61, u62, u63, u64, u65, u66, u67, u68, u69, u70, .int .i64 7, u72, u73, u74, u75, u76, u77, u78, u79, u80, u81, u82, u83, u84, u85, u86, u87, u88, u89, u90, u91, u92, u93, u94, u95, u96, u97, u98, u99, u100, u101, u102, u103, u104, u105, u106, u107, u108, u109, u110, u111, u112, u113, u114, u115, u116, u117, u118, u119, u120, u121, u122, u123, u124, u125, u126, u127, u128, u129, u130, u131, u132, u133, u134, u135, u136, u137, u138, u139, u140, u141, u142, u143, u144, u145, u146, u147, u148, u149, u150, u151, u152, u153, u154, u155, u156, u157, u158, u159, u160, u161, u162, u163, u164, u165, u166, u167, u168, u169, u170, u171, u172, u173, u174, u175, u176, u177, u178, u179, u180, u181, u182, u183, u184, u185, u186, u187, u188, u189, u190, u191, u192, u193, u194, u195, u196, u197, u198, u199, u200, u201, u202, u203, u204, u205, u206, u207, u208, u209, u210, u211, u212, u213, u214, u215, u216, u217, u218, u219, sl220, sl221, sl222, sl223, sl224, sl225, sl226, sl227, sl228], []⟩) → J a' w') (h2 : ∀ a' w', Met J a' w' → K' a' w') :
    Code.wp Tryd.prog objSw (Exit.then K' Q') ⟨#[sl0, sl1, sl2, sl3, sl4, .pointer (some ⟨b5, 0, none⟩), sl6, .pointer (some ⟨b7, 0, none⟩), sl8, sl9, sl10, sl11, sl12, sl13, sl14, sl15, sl16, sl17, sl18, sl19, sl20, sl21, sl22, sl23, sl24, sl25, sl26, sl27, sl28, sl29, sl30, sl31, sl32, sl33, sl34, sl35, sl36, sl37, sl38, sl39, sl40, sl41, sl42, sl43, sl44, sl45, sl46, sl47, sl48, sl49, sl50, sl51, sl52, sl53, sl54, sl55, sl56, sl57, sl58, sl59, sl60, sl61, sl62, sl63, sl64, sl65, sl66, sl67, sl68, sl69, sl70, .int .i64 7, sl72, sl73, sl74, sl75, sl76, sl77, sl78, sl79, sl80, sl81, sl82, sl83, sl84, sl85, sl86, sl87, sl88, sl89, sl90, sl91, sl92, sl93, sl94, sl95, sl96, sl97, sl98, sl99, sl100, sl101, sl102, sl103, sl104, sl105, sl106, sl107, sl108, sl109, sl110, sl111, sl112, sl113, sl114, sl115, sl116, sl117, sl118, sl119, sl120, sl121, sl122, sl123, sl124, sl125, sl126, sl127, sl128, sl129, sl130, sl131, sl132, sl133, sl134, sl135, sl136, sl137, sl138, sl139, sl140, sl141, sl142, sl143, sl144, sl145, sl146, sl147, sl148, sl149, sl150, sl151, sl152, sl153, sl154, sl155, sl156, sl157, sl158, sl159, sl160, sl161, sl162, sl163, sl164, sl165, sl166, sl167, sl168, sl169, sl170, sl171, sl172, sl173, sl174, sl175, sl176, sl177, sl178, sl179, sl180, sl181, sl182, sl183, sl184, sl185, sl186, sl187, sl188, sl189, sl190, sl191, sl192, sl193, sl194, sl195, sl196, sl197, sl198, sl199, sl200, sl201, sl202, sl203, sl204, sl205, sl206, sl207, sl208, sl209, sl210, sl211, sl212, sl213, sl214, sl215, sl216, sl217, sl218, sl219, sl220, sl221, sl222, sl223, sl224, sl225, sl226, sl227, sl228], []⟩ W := by
  conv => arg 2; whnf
  have HS : Hid (objStep O y = { O with reason := 1 + pick y.a 7, msg := msgL.getD (pickN y.b 3) ⟨#[]⟩ }) := by simp only [objStep, hq]; rfl
  clear hq
  have y1 := cell_of_block (j := 1) RY.out rfl
  have c27 := HW.out.cell (oc27 O s)
  have hfz := HW.out.fz
  have hlo := pick_lo y.a 7 (by omega)
  have hhi := pick_hi y.a 7 (by omega)
  go_upto_region 40 with (go_at_call 8; refine (pick_any y.a 7 _ (by omega) (by omega)).mono ?_; rintro e u ⟨rfl, rfl⟩)
  have H2 := hid (HW.out.set 27 (.int .i64 (1 + pick y.a 7)) (os27 O s _) rfl rfl rfl rfl HW.out.dl)
  have RY2 := hid ((block_setCell_other (w := W) (p := b5) (j := 27) (q := b7) (NE7.out) (.int .i64 (1 + pick y.a 7))).trans RY.out)
  clear y1 c27 hfz hlo hhi
  generalize W.setCell ⟨b5, 27, none⟩ (.int .i64 (1 + pick y.a 7)) = W2 at *
  have y2 := cell_of_block (j := 2) RY2.out rfl
  have c28 := H2.out.cell (oc28 _ s)
  have hfz := H2.out.fz
  have hpe : pick y.b 3 = (pickN y.b 3 : Int) := pickN_eq y.b 3 (by omega)
  have HP := hid hpe; clear hpe
  have HL3 := hid (pickN_lt y.b 3 (by omega))
  have hbu : ∀ w, (Instr.build 61 #[(0, .string ⟨#[]⟩), (1, .string ⟨#[109]⟩), (2, .string ⟨#[108, 111, 115, 116]⟩)]).run Tryd.prog w = .ok (.agg (strsA msgL)) w := fun w => by kernel_rfl
  have HBU := hid hbu; clear hbu
  have HG3 := hid (strsA_get msgL (pickN y.b 3) (by have := HL3.out; simpa [msgL] using this))
  generalize strsA msgL = SA at *
  refine wp_region_lit ?_
  refine wpList_build_obj rfl 61 _ rfl #[(0, .string ⟨#[]⟩), (1, .string ⟨#[109]⟩), (2, .string ⟨#[108, 111, 115, 116]⟩)] (by simp [Act.eval]) _ (HBU.out _) ?_
  go_simp
  go_wp2_with fail
  refine (pick_any y.b 3 _ (by omega) (by omega)).mono ?_
  rintro e u ⟨rfl, rfl⟩
  rw [HP.out]
  go_wp2_with (refine wpList_index_row rfl _ _ rfl Tryd.underlying61 sizeStr Tryd.underlying9 rfl SA rfl _ rfl (pickN y.b 3) rfl _ HL3.out HG3.out ?_)
  go_meet
  rw [HS.out]
  exact ⟨s, H2.out.set 28 _ (os28 _ s _) rfl rfl rfl rfl H2.out.dl⟩
end Go.Proofs.YtgenbpndphdgnaaDoor
