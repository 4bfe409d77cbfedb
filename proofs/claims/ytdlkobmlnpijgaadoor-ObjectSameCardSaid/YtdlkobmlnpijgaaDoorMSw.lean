/- locksmithhand.Object: its first statements. locksmithhand.Object: case 0 of its switch. locksmithhand.Object: case 1 of its switch. locksmithhand.Object: case 2 of its switch. locksmithhand.Object: case 3 of its switch. locksmithhand.Object: case 4 of its switch. locksmithhand.Object: case 5 of its switch. locksmithhand.Object: case 6 of its switch. locksmithhand.Object: case 7 of its switch. locksmithhand.Object: case 8 of its switch. locksmithhand.Object: its switch. locksmithhand.Object: a round of its loop. locksmithhand.Object: the object of raw numbers. -/
import Derived.Test.YtdlkobmlnpijgaaDoorObjMake
import Derived.Test.YtdlkobmlnpijgaaDoorSame2
import Derived.Deep.DeepCutAuto
import Derived.Deep.CutBlock
namespace Go.Proofs.YtdlkobmlnpijgaaDoor
section
open Go.RowKit
set_option linter.unusedVariables false
set_option linter.unusedSimpArgs false
set_option maxRecDepth 1000000
set_option maxHeartbeats 16000000

def matA : Array Value := intsA [16, 16, 32, 0, 24]
theorem matA_get (k : Nat) (h : k < 5) : matA[k]? = some (.int .i64 ((matN k : Nat) : Int)) := by
  have : k = 0 ∨ k = 1 ∨ k = 2 ∨ k = 3 ∨ k = 4 := by omega
  rcases this with rfl | rfl | rfl | rfl | rfl <;> rfl
theorem matL_le (k : Nat) : matN k ≤ 32 := by
  show matL.getD k 0 ≤ 32
  rcases Nat.lt_or_ge k 5 with h | h
  · have : k = 0 ∨ k = 1 ∨ k = 2 ∨ k = 3 ∨ k = 4 := by omega
    rcases this with rfl | rfl | rfl | rfl | rfl <;> decide
  · rw [List.getD_eq_getElem?_getD, List.getElem?_eq_none (by simpa [matL] using h)]; decide
def stMat (B n : Nat) (l : List UInt8) : St Grow := ⟨fun v w => ∃ a c, v = .slice a n c ∧ w.ownsRow B 5 1 (.slice a n c) n (l.map B8), fun v w w' h hg => let ⟨a, c, e, h1⟩ := h; ⟨a, c, e, (Chg.of_below hg []).owns h1 (fun k _ hm => by cases hm)⟩⟩
def stObj (B n : Nat) (O : ObjD) : St Grow := ⟨fun v w => ∃ a c, v = .agg (objCells O { zObjV with mat := ⟨a, n, c⟩ }) ∧ w.ownsRow B 5 1 (.slice a n c) n (O.mat.map B8), fun v w w' h hg => let ⟨a, c, e, h1⟩ := h; ⟨a, c, e, (Chg.of_below hg []).owns h1 (fun k _ hm => by cases hm)⟩⟩
def stNew (B : Nat) : St Grow := ⟨fun v w => ∃ p, v = .pointer (some ⟨p, 0, none⟩) ∧ w.heap[p]? = some (.cells (objCells zObj zObjV) 35 (0, 0)) ∧ B ≤ p, fun v w w' h hg => let ⟨p, e, h1, h2⟩ := h; ⟨p, e, (hg.block _ (block_lt h1)).trans h1, h2⟩⟩
theorem obj_build (id : ByteArray) (t al mk st : Int) (a : Option Addr) (n c : Nat) (m : List UInt8) (w : World) :
    (Instr.build 35 #[(0, .string id), (1, .int .i64 t), (2, .int .i64 al), (3, .int .i64 128), (4, .int .i64 mk), (5, .slice a n c), (6, .int .i64 st)]).run Tryd.prog w = .ok (.agg (objCells { id := id, typ := t, alg := al, len := 128, mask := mk, mat := m, st := st } { zObjV with mat := ⟨a, n, c⟩ })) w := by kernel_rfl
theorem eqLinkB (d : Nat) (x y : Int × ByteArray) (w : World) : (Op.equalIn (d + 2) 56 (.agg #[.int .i64 x.1, .string x.2]) (.agg #[.int .i64 y.1, .string y.2])).run Tryd.prog w = .ok (x.1 == y.1 && strEq x.2 y.2) w := by
  unfold strEq
  cases h1 : (x.1 == y.1) <;> cases h2 : (x.2.toList == y.2.toList) <;> go_simp
theorem eqCustB (d : Nat) (x y : ByteArray × ByteArray) (w : World) : (Op.equalIn (d + 2) 58 (.agg #[.string x.1, .string x.2]) (.agg #[.string y.1, .string y.2])).run Tryd.prog w = .ok (strEq x.1 y.1 && strEq x.2 y.2) w := by
  unfold strEq
  cases h1 : (x.1.toList == y.1.toList) <;> cases h2 : (x.2.toList == y.2.toList) <;> go_simp
def stPair (B : Nat) (T : TypeId) : St Grow := ⟨fun v w => ∃ p C, v = .pointer (some ⟨p, 0, none⟩) ∧ w.heap[p]? = some (.cells C T (0, 0)) ∧ C.size = 2 ∧ B ≤ p, fun v w w' h hg => let ⟨p, C, e, h1, h2, h3⟩ := h; ⟨p, C, e, (hg.block _ (block_lt h1)).trans h1, h2, h3⟩⟩
theorem pair_cells {C : Array Value} (h : C.size = 2) : ∃ u v, C = #[u, v] := by
  obtain ⟨l⟩ := C
  match l, h with
  | [u, v], _ => exact ⟨u, v, rfl⟩
/-- Block n of a text. -/
def findBlock (n : Nat) : Code → Option Code
  | .loop c => findBlock n c
  | .seq a b => match findBlock n a with
    | some c => some c
    | none => findBlock n b
  | .block m c => if m = n then some (.block m c) else findBlock n c
  | .scope c => findBlock n c
  | .cond _ a b => match findBlock n a with
    | some c => some c
    | none => findBlock n b
  | _ => none
theorem wp_last {P : Program} {s : Code} {Q : Exit → Act → World → Prop} {a : Act} {w : World} (h : ∀ K : Act → World → Prop, (∀ a' w', Q .normal a' w' → K a' w') → s.wp P (Exit.then K Q) a w) : s.wp P Q a w := by
  refine wp_mono (h (Q .normal) (fun _ _ q => q)) ?_
  intro e a' w' hq
  cases e <;> exact hq
noncomputable def objSw : Code := (Tryd.f20.body.bind (findBlock 2)).getD .skip
noncomputable def objRd : Code := (Tryd.f20.body.bind (findBlock 1)).getD .skip
end
section
open Go.RowKit
set_option linter.unusedVariables false
set_option linter.unusedSimpArgs false
set_option maxRecDepth 1000000
set_option maxHeartbeats 16000000
theorem obj_sw0 {w W : World} {x y : RawD} {b0 b5 b7 : Nat} {O : ObjD} {s : ObjV} (sl0 sl1 sl2 sl3 sl4 sl6 sl8 sl9 sl10 sl11 sl12 sl13 sl14 sl15 sl16 sl17 sl18 sl19 sl20 sl21 sl22 sl23 sl24 sl25 sl26 sl27 sl28 sl29 sl30 sl31 sl32 sl33 sl34 sl35 sl36 sl37 sl38 sl39 sl40 sl41 sl42 sl43 sl44 sl45 sl46 sl47 sl48 sl49 sl50 sl51 sl52 sl53 sl54 sl55 sl56 sl57 sl58 sl59 sl60 sl61 sl62 sl63 sl64 sl65 sl66 sl67 sl68 sl69 sl70 sl72 sl73 sl74 sl75 sl76 sl77 sl78 sl79 sl80 sl81 sl82 sl83 sl84 sl85 sl86 sl87 sl88 sl89 sl90 sl91 sl92 sl93 sl94 sl95 sl96 sl97 sl98 sl99 sl100 sl101 sl102 sl103 sl104 sl105 sl106 sl107 sl108 sl109 sl110 sl111 sl112 sl113 sl114 sl115 sl116 sl117 sl118 sl119 sl120 sl121 sl122 sl123 sl124 sl125 sl126 sl127 sl128 sl129 sl130 sl131 sl132 sl133 sl134 sl135 sl136 sl137 sl138 sl139 sl140 sl141 sl142 sl143 sl144 sl145 sl146 sl147 sl148 sl149 sl150 sl151 sl152 sl153 sl154 sl155 sl156 sl157 sl158 sl159 sl160 sl161 sl162 sl163 sl164 sl165 sl166 sl167 sl168 sl169 sl170 sl171 sl172 sl173 sl174 sl175 sl176 sl177 sl178 sl179 sl180 sl181 sl182 sl183 sl184 sl185 sl186 sl187 sl188 sl189 sl190 sl191 sl192 sl193 sl194 sl195 sl196 sl197 sl198 sl199 sl200 sl201 sl202 sl203 sl204 sl205 sl206 sl207 sl208 sl209 sl210 sl211 sl212 sl213 sl214 sl215 sl216 sl217 sl218 sl219 sl220 sl221 sl222 sl223 sl224 sl225 sl226 sl227 sl228 : Value) (J K' : Act → World → Prop) (Q' : Exit → Act → World → Prop)
    (HW : Hid (HObj w W x b0 b5 O s)) (RY : Hid (W.heap[b7]? = some (.cells #[.int .i64 y.kind, .int .i64 y.a, .int .i64 y.b, .int .i64 y.c] 41 (0, 0)))) (NE7 : Hid (b7 ≠ b5)) (NE : Hid (b5 < b7)) (HOK : Hid y.ok)
    (HN : Hid (O.names.length ≤ 10 ∧ O.links.length ≤ 10 ∧ O.custom.length ≤ 10))
    (hq : pickN y.kind 9 = 0)
    (h1 : ∀ a' w', (∃ u8 u9 u10 u11 u12 u13 u14 u15 u55 u56 u57 u58 u59 u60 u61 u62 u63 u64 u65 u66 u67 u68 u69 u70 u72 u73 u74 u75 u76 u77 u78 u79 u80 u81 u82 u83 u84 u85 u86 u87 u88 u89 u90 u91 u92 u93 u94 u95 u96 u97 u98 u99 u100 u101 u102 u103 u104 u105 u106 u107 u108 u109 u110 u111 u112 u113 u114 u115 u116 u117 u118 u119 u120 u121 u122 u123 u124 u125 u126 u127 u128 u129 u130 u131 u132 u133 u134 u135 u136 u137 u138 u139 u140 u141 u142 u143 u144 u145 u146 u147 u148 u149 u150 u151 u152 u153 u154 u155 u156 u157 u158 u159 u160 u161 u162 u163 u164 u165 u166 u167 u168 u169 u170 u171 u172 u173 u174 u175 u176 u177 u178 u179 u180 u181 u182 u183 u184 u185 u186 u187 u188 u189 u190 u191 u192 u193 u194 u195 u196 u197 u198 u199 u200 u201 u202 u203 u204 u205 u206 u207 u208 u209 u210 u211 u212 u213 u214 u215 u216 u217 u218 u219 : Value, (∃ s', HObj w w' x b0 b5 (objStep O y) s') ∧ a' = ⟨#[sl0, sl1, sl2, sl3, sl4, .pointer (some ⟨b5, 0, none⟩), sl6, .pointer (some ⟨b7, 0, none⟩), u8, u9, u10, u11, u12, u13, u14, u15, sl16, sl17, sl18, sl19, sl20, sl21, sl22, sl23, sl24, sl25, sl26, sl27, sl28, sl29, sl30, sl31, sl32, sl33, sl34, sl35, sl36, sl37, sl38, sl39, sl40, sl41, sl42, sl43, sl44, sl45, sl46, sl47, sl48, sl49, sl50, sl51, sl52, sl53, sl54, u55, u56, u57, u58, u59, u60, u61, u62, u63, u64, u65, u66, u67, u68, u69, u70, .int .i64 0, u72, u73, u74, u75, u76, u77, u78, u79, u80, u81, u82, u83, u84, u85, u86, u87, u88, u89, u90, u91, u92, u93, u94, u95, u96, u97, u98, u99, u100, u101, u102, u103, u104, u105, u106, u107, u108, u109, u110, u111, u112, u113, u114, u115, u116, u117, u118, u119, u120, u121, u122, u123, u124, u125, u126, u127, u128, u129, u130, u131, u132, u133, u134, u135, u136, u137, u138, u139, u140, u141, u142, u143, u144, u145, u146, u147, u148, u149, u150, u151, u152, u153, u154, u155, u156, u157, u158, u159, u160, u161, u162, u163, u164, u165, u166, u167, u168, u169, u170, u171, u172, u173, u174, u175, u176, u177, u178, u179, u180, u181, u182, u183, u184, u185, u186, u187, u188, u189, u190, u191, u192, u193, u194, u195, u196, u197, u198, u199, u200, u201, u202, u203, u204, u205, u206, u207, u208, u209, u210, u211, u212, u213, u214, u215, u216, u217, u218, u219, sl220, sl221, sl222, sl223, sl224, sl225, sl226, sl227, sl228], []⟩) → J a' w') (h2 : ∀ a' w', Met J a' w' → K' a' w') :
    Code.wp Tryd.prog objSw (Exit.then K' Q') ⟨#[sl0, sl1, sl2, sl3, sl4, .pointer (some ⟨b5, 0, none⟩), sl6, .pointer (some ⟨b7, 0, none⟩), sl8, sl9, sl10, sl11, sl12, sl13, sl14, sl15, sl16, sl17, sl18, sl19, sl20, sl21, sl22, sl23, sl24, sl25, sl26, sl27, sl28, sl29, sl30, sl31, sl32, sl33, sl34, sl35, sl36, sl37, sl38, sl39, sl40, sl41, sl42, sl43, sl44, sl45, sl46, sl47, sl48, sl49, sl50, sl51, sl52, sl53, sl54, sl55, sl56, sl57, sl58, sl59, sl60, sl61, sl62, sl63, sl64, sl65, sl66, sl67, sl68, sl69, sl70, .int .i64 0, sl72, sl73, sl74, sl75, sl76, sl77, sl78, sl79, sl80, sl81, sl82, sl83, sl84, sl85, sl86, sl87, sl88, sl89, sl90, sl91, sl92, sl93, sl94, sl95, sl96, sl97, sl98, sl99, sl100, sl101, sl102, sl103, sl104, sl105, sl106, sl107, sl108, sl109, sl110, sl111, sl112, sl113, sl114, sl115, sl116, sl117, sl118, sl119, sl120, sl121, sl122, sl123, sl124, sl125, sl126, sl127, sl128, sl129, sl130, sl131, sl132, sl133, sl134, sl135, sl136, sl137, sl138, sl139, sl140, sl141, sl142, sl143, sl144, sl145, sl146, sl147, sl148, sl149, sl150, sl151, sl152, sl153, sl154, sl155, sl156, sl157, sl158, sl159, sl160, sl161, sl162, sl163, sl164, sl165, sl166, sl167, sl168, sl169, sl170, sl171, sl172, sl173, sl174, sl175, sl176, sl177, sl178, sl179, sl180, sl181, sl182, sl183, sl184, sl185, sl186, sl187, sl188, sl189, sl190, sl191, sl192, sl193, sl194, sl195, sl196, sl197, sl198, sl199, sl200, sl201, sl202, sl203, sl204, sl205, sl206, sl207, sl208, sl209, sl210, sl211, sl212, sl213, sl214, sl215, sl216, sl217, sl218, sl219, sl220, sl221, sl222, sl223, sl224, sl225, sl226, sl227, sl228], []⟩ W := by
  conv => arg 2; whnf
  have HS : Hid (objStep O y = O.setDate (pickN y.a 10) (true, pick y.b 60)) := by simp [objStep, hq, Hid]
  clear hq
  have hq10 := pickN_lt y.a 10 (by omega)
  have hqe : pick y.a 10 = (pickN y.a 10 : Int) := pickN_eq y.a 10 (by omega)
  have HQE := hid hqe; clear hqe
  generalize pickN y.a 10 = q at *
  go_upto_region 12 with (fail)
  refine wp_region_each 9 [.eq (.pointer (some ⟨b7, 1, none⟩)), .eq (.int .i64 y.a), .eq (.int .i64 (q : Int)), .eq (.pointer (some ⟨b7, 2, none⟩)), .eq (.int .i64 y.b), .eq (.int .i64 (pick y.b 60)), .eq (.agg #[.bool true, .int .i64 (pick y.b 60)]), .eq (.pointer (some ⟨b5, 7, none⟩)), .eq (.pointer (some ⟨b5, 7 + q * 2, none⟩))] (by kernel_rfl) (by kernel_rfl) (by kernel_rfl) (by kernel_rfl) ?_ ?_
  · as_aux_lemma =>
      refine each_5 ?_ ?_ ?_ ?_ ?_ (each_c ?_ (each_c ?_ (each_c ?_ (each_c ?_ (each_n)))))
      · intro w1 hg Ar seen
        have s7 := seen.sl 7 (.pointer (some ⟨b7, 0, none⟩))
        refine does_plain rfl fun K Q' hK => ?_
        go_simp; exact hK _ _ (Grow.refl _) rfl
      · intro w1 hg Ar seen
        have e0 := seen.de 0 81
        refine does_plain rfl fun K Q' hK => ?_
        have hc := cell_of_block (j := 1) ((hg.block _ (block_lt RY.out)).trans RY.out) rfl
        go_simp; exact hK _ _ (Grow.refl _) rfl
      · intro w1 hg Ar seen
        have e1 := seen.de 1 82
        refine does_plain rfl fun K Q' hK => ?_
        go_simp
        refine (pick_any y.a 10 _ (by omega) (by omega)).mono ?_
        rintro e u ⟨rfl, rfl⟩
        rw [HQE.out]
        exact hK _ _ (Grow.refl _) rfl
      · intro w1 hg Ar seen
        have s7 := seen.sl 7 (.pointer (some ⟨b7, 0, none⟩))
        refine does_plain rfl fun K Q' hK => ?_
        go_simp; exact hK _ _ (Grow.refl _) rfl
      · intro w1 hg Ar seen
        have e3 := seen.de 3 84
        refine does_plain rfl fun K Q' hK => ?_
        have hc := cell_of_block (j := 2) ((hg.block _ (block_lt RY.out)).trans RY.out) rfl
        go_simp; exact hK _ _ (Grow.refl _) rfl
      · intro w1 hg Ar seen
        have e4 := seen.de 4 85
        refine does_plain rfl fun K Q' hK => ?_
        go_simp
        refine (pick_any (y.b) 60 _ (by omega) (by omega)).mono ?_
        rintro e u ⟨rfl, rfl⟩
        exact hK _ _ (Grow.refl _) rfl
      · intro w1 hg Ar seen
        have e5 := seen.de 5 86
        refine does_plain rfl fun K Q' hK => ?_
        go_simp; exact hK _ _ (Grow.refl _) rfl
      · intro w1 hg Ar seen
        have s5 := seen.sl 5 (.pointer (some ⟨b5, 0, none⟩))
        refine does_plain rfl fun K Q' hK => ?_
        go_simp; exact hK _ _ (Grow.refl _) rfl
      · intro w1 hg Ar seen
        have e2 := seen.de 2 83
        have e7 := seen.de 7 88
        refine does_plain rfl fun K Q' hK => ?_
        have hqi : (q : Int) < 10 := by omega
        go_simp; exact hK _ _ (Grow.refl _) rfl
  intro w1 hg
  refine upon_w' (js := [0, 1, 2, 3, 4, 5, 6, 7, 8]) (by rfl) ?_
  refine upon_e (some 81) (upon_e (some 82) (upon_e (some 83) (upon_e (some 84) (upon_e (some 85) (upon_e (some 86) (upon_e (some 87) (upon_e (some 88) (upon_e (some 89) (upon_n ?_)))))))))
  have h9 := HW.out.below hg
  have H9 := hid h9
  have hfz := h9.fz
  have cd1 := h9.cell (ocH O s q hq10)
  have cd2 := h9.cell (ocT O s q hq10)
  clear h9 hg
  go_wp2_with fail
  go_meet
  rw [HS.out]
  exact ⟨s, H9.out.date q hq10 true _⟩
end
section
open Go.RowKit
set_option linter.unusedVariables false
set_option linter.unusedSimpArgs false
set_option maxRecDepth 1000000
set_option maxHeartbeats 16000000
theorem obj_sw1 {w W : World} {x y : RawD} {b0 b5 b7 : Nat} {O : ObjD} {s : ObjV} (sl0 sl1 sl2 sl3 sl4 sl6 sl8 sl9 sl10 sl11 sl12 sl13 sl14 sl15 sl16 sl17 sl18 sl19 sl20 sl21 sl22 sl23 sl24 sl25 sl26 sl27 sl28 sl29 sl30 sl31 sl32 sl33 sl34 sl35 sl36 sl37 sl38 sl39 sl40 sl41 sl42 sl43 sl44 sl45 sl46 sl47 sl48 sl49 sl50 sl51 sl52 sl53 sl54 sl55 sl56 sl57 sl58 sl59 sl60 sl61 sl62 sl63 sl64 sl65 sl66 sl67 sl68 sl69 sl70 sl72 sl73 sl74 sl75 sl76 sl77 sl78 sl79 sl80 sl81 sl82 sl83 sl84 sl85 sl86 sl87 sl88 sl89 sl90 sl91 sl92 sl93 sl94 sl95 sl96 sl97 sl98 sl99 sl100 sl101 sl102 sl103 sl104 sl105 sl106 sl107 sl108 sl109 sl110 sl111 sl112 sl113 sl114 sl115 sl116 sl117 sl118 sl119 sl120 sl121 sl122 sl123 sl124 sl125 sl126 sl127 sl128 sl129 sl130 sl131 sl132 sl133 sl134 sl135 sl136 sl137 sl138 sl139 sl140 sl141 sl142 sl143 sl144 sl145 sl146 sl147 sl148 sl149 sl150 sl151 sl152 sl153 sl154 sl155 sl156 sl157 sl158 sl159 sl160 sl161 sl162 sl163 sl164 sl165 sl166 sl167 sl168 sl169 sl170 sl171 sl172 sl173 sl174 sl175 sl176 sl177 sl178 sl179 sl180 sl181 sl182 sl183 sl184 sl185 sl186 sl187 sl188 sl189 sl190 sl191 sl192 sl193 sl194 sl195 sl196 sl197 sl198 sl199 sl200 sl201 sl202 sl203 sl204 sl205 sl206 sl207 sl208 sl209 sl210 sl211 sl212 sl213 sl214 sl215 sl216 sl217 sl218 sl219 sl220 sl221 sl222 sl223 sl224 sl225 sl226 sl227 sl228 : Value) (J K' : Act → World → Prop) (Q' : Exit → Act → World → Prop)
    (HW : Hid (HObj w W x b0 b5 O s)) (RY : Hid (W.heap[b7]? = some (.cells #[.int .i64 y.kind, .int .i64 y.a, .int .i64 y.b, .int .i64 y.c] 41 (0, 0)))) (NE7 : Hid (b7 ≠ b5)) (NE : Hid (b5 < b7)) (HOK : Hid y.ok)
    (HN : Hid (O.names.length ≤ 10 ∧ O.links.length ≤ 10 ∧ O.custom.length ≤ 10))
    (hq : pickN y.kind 9 = 1)
    (h1 : ∀ a' w', (∃ u8 u9 u10 u11 u12 u13 u14 u15 u55 u56 u57 u58 u59 u60 u61 u62 u63 u64 u65 u66 u67 u68 u69 u70 u72 u73 u74 u75 u76 u77 u78 u79 u80 u81 u82 u83 u84 u85 u86 u87 u88 u89 u90 u91 u92 u93 u94 u95 u96 u97 u98 u99 u100 u101 u102 u103 u104 u105 u106 u107 u108 u109 u110 u111 u112 u113 u114 u115 u116 u117 u118 u119 u120 u121 u122 u123 u124 u125 u126 u127 u128 u129 u130 u131 u132 u133 u134 u135 u136 u137 u138 u139 u140 u141 u142 u143 u144 u145 u146 u147 u148 u149 u150 u151 u152 u153 u154 u155 u156 u157 u158 u159 u160 u161 u162 u163 u164 u165 u166 u167 u168 u169 u170 u171 u172 u173 u174 u175 u176 u177 u178 u179 u180 u181 u182 u183 u184 u185 u186 u187 u188 u189 u190 u191 u192 u193 u194 u195 u196 u197 u198 u199 u200 u201 u202 u203 u204 u205 u206 u207 u208 u209 u210 u211 u212 u213 u214 u215 u216 u217 u218 u219 : Value, (∃ s', HObj w w' x b0 b5 (objStep O y) s') ∧ a' = ⟨#[sl0, sl1, sl2, sl3, sl4, .pointer (some ⟨b5, 0, none⟩), sl6, .pointer (some ⟨b7, 0, none⟩), u8, u9, u10, u11, u12, u13, u14, u15, sl16, sl17, sl18, sl19, sl20, sl21, sl22, sl23, sl24, sl25, sl26, sl27, sl28, sl29, sl30, sl31, sl32, sl33, sl34, sl35, sl36, sl37, sl38, sl39, sl40, sl41, sl42, sl43, sl44, sl45, sl46, sl47, sl48, sl49, sl50, sl51, sl52, sl53, sl54, u55, u56, u57, u58, u59, u60, u61, u62, u63, u64, u65, u66, u67, u68, u69, u70, .int .i64 1, u72, u73, u74, u75, u76, u77, u78, u79, u80, u81, u82, u83, u84, u85, u86, u87, u88, u89, u90, u91, u92, u93, u94, u95, u96, u97, u98, u99, u100, u101, u102, u103, u104, u105, u106, u107, u108, u109, u110, u111, u112, u113, u114, u115, u116, u117, u118, u119, u120, u121, u122, u123, u124, u125, u126, u127, u128, u129, u130, u131, u132, u133, u134, u135, u136, u137, u138, u139, u140, u141, u142, u143, u144, u145, u146, u147, u148, u149, u150, u151, u152, u153, u154, u155, u156, u157, u158, u159, u160, u161, u162, u163, u164, u165, u166, u167, u168, u169, u170, u171, u172, u173, u174, u175, u176, u177, u178, u179, u180, u181, u182, u183, u184, u185, u186, u187, u188, u189, u190, u191, u192, u193, u194, u195, u196, u197, u198, u199, u200, u201, u202, u203, u204, u205, u206, u207, u208, u209, u210, u211, u212, u213, u214, u215, u216, u217, u218, u219, sl220, sl221, sl222, sl223, sl224, sl225, sl226, sl227, sl228], []⟩) → J a' w') (h2 : ∀ a' w', Met J a' w' → K' a' w') :
    Code.wp Tryd.prog objSw (Exit.then K' Q') ⟨#[sl0, sl1, sl2, sl3, sl4, .pointer (some ⟨b5, 0, none⟩), sl6, .pointer (some ⟨b7, 0, none⟩), sl8, sl9, sl10, sl11, sl12, sl13, sl14, sl15, sl16, sl17, sl18, sl19, sl20, sl21, sl22, sl23, sl24, sl25, sl26, sl27, sl28, sl29, sl30, sl31, sl32, sl33, sl34, sl35, sl36, sl37, sl38, sl39, sl40, sl41, sl42, sl43, sl44, sl45, sl46, sl47, sl48, sl49, sl50, sl51, sl52, sl53, sl54, sl55, sl56, sl57, sl58, sl59, sl60, sl61, sl62, sl63, sl64, sl65, sl66, sl67, sl68, sl69, sl70, .int .i64 1, sl72, sl73, sl74, sl75, sl76, sl77, sl78, sl79, sl80, sl81, sl82, sl83, sl84, sl85, sl86, sl87, sl88, sl89, sl90, sl91, sl92, sl93, sl94, sl95, sl96, sl97, sl98, sl99, sl100, sl101, sl102, sl103, sl104, sl105, sl106, sl107, sl108, sl109, sl110, sl111, sl112, sl113, sl114, sl115, sl116, sl117, sl118, sl119, sl120, sl121, sl122, sl123, sl124, sl125, sl126, sl127, sl128, sl129, sl130, sl131, sl132, sl133, sl134, sl135, sl136, sl137, sl138, sl139, sl140, sl141, sl142, sl143, sl144, sl145, sl146, sl147, sl148, sl149, sl150, sl151, sl152, sl153, sl154, sl155, sl156, sl157, sl158, sl159, sl160, sl161, sl162, sl163, sl164, sl165, sl166, sl167, sl168, sl169, sl170, sl171, sl172, sl173, sl174, sl175, sl176, sl177, sl178, sl179, sl180, sl181, sl182, sl183, sl184, sl185, sl186, sl187, sl188, sl189, sl190, sl191, sl192, sl193, sl194, sl195, sl196, sl197, sl198, sl199, sl200, sl201, sl202, sl203, sl204, sl205, sl206, sl207, sl208, sl209, sl210, sl211, sl212, sl213, sl214, sl215, sl216, sl217, sl218, sl219, sl220, sl221, sl222, sl223, sl224, sl225, sl226, sl227, sl228], []⟩ W := by
  conv => arg 2; whnf
  have HS : Hid (objStep O y = O.setDate (pickN y.a 10) (true, pick y.b 60)) := by simp [objStep, hq, Hid]
  clear hq
  have hq10 := pickN_lt y.a 10 (by omega)
  have hqe : pick y.a 10 = (pickN y.a 10 : Int) := pickN_eq y.a 10 (by omega)
  have HQE := hid hqe; clear hqe
  generalize pickN y.a 10 = q at *
  go_upto_region 12 with (fail)
  refine wp_region_each 9 [.eq (.pointer (some ⟨b7, 1, none⟩)), .eq (.int .i64 y.a), .eq (.int .i64 (q : Int)), .eq (.pointer (some ⟨b7, 2, none⟩)), .eq (.int .i64 y.b), .eq (.int .i64 (pick y.b 60)), .eq (.agg #[.bool true, .int .i64 (pick y.b 60)]), .eq (.pointer (some ⟨b5, 7, none⟩)), .eq (.pointer (some ⟨b5, 7 + q * 2, none⟩))] (by kernel_rfl) (by kernel_rfl) (by kernel_rfl) (by kernel_rfl) ?_ ?_
  · as_aux_lemma =>
      refine each_5 ?_ ?_ ?_ ?_ ?_ (each_c ?_ (each_c ?_ (each_c ?_ (each_c ?_ (each_n)))))
      · intro w1 hg Ar seen
        have s7 := seen.sl 7 (.pointer (some ⟨b7, 0, none⟩))
        refine does_plain rfl fun K Q' hK => ?_
        go_simp; exact hK _ _ (Grow.refl _) rfl
      · intro w1 hg Ar seen
        have e0 := seen.de 0 81
        refine does_plain rfl fun K Q' hK => ?_
        have hc := cell_of_block (j := 1) ((hg.block _ (block_lt RY.out)).trans RY.out) rfl
        go_simp; exact hK _ _ (Grow.refl _) rfl
      · intro w1 hg Ar seen
        have e1 := seen.de 1 82
        refine does_plain rfl fun K Q' hK => ?_
        go_simp
        refine (pick_any y.a 10 _ (by omega) (by omega)).mono ?_
        rintro e u ⟨rfl, rfl⟩
        rw [HQE.out]
        exact hK _ _ (Grow.refl _) rfl
      · intro w1 hg Ar seen
        have s7 := seen.sl 7 (.pointer (some ⟨b7, 0, none⟩))
        refine does_plain rfl fun K Q' hK => ?_
        go_simp; exact hK _ _ (Grow.refl _) rfl
      · intro w1 hg Ar seen
        have e3 := seen.de 3 84
        refine does_plain rfl fun K Q' hK => ?_
        have hc := cell_of_block (j := 2) ((hg.block _ (block_lt RY.out)).trans RY.out) rfl
        go_simp; exact hK _ _ (Grow.refl _) rfl
      · intro w1 hg Ar seen
        have e4 := seen.de 4 85
        refine does_plain rfl fun K Q' hK => ?_
        go_simp
        refine (pick_any (y.b) 60 _ (by omega) (by omega)).mono ?_
        rintro e u ⟨rfl, rfl⟩
        exact hK _ _ (Grow.refl _) rfl
      · intro w1 hg Ar seen
        have e5 := seen.de 5 86
        refine does_plain rfl fun K Q' hK => ?_
        go_simp; exact hK _ _ (Grow.refl _) rfl
      · intro w1 hg Ar seen
        have s5 := seen.sl 5 (.pointer (some ⟨b5, 0, none⟩))
        refine does_plain rfl fun K Q' hK => ?_
        go_simp; exact hK _ _ (Grow.refl _) rfl
      · intro w1 hg Ar seen
        have e2 := seen.de 2 83
        have e7 := seen.de 7 88
        refine does_plain rfl fun K Q' hK => ?_
        have hqi : (q : Int) < 10 := by omega
        go_simp; exact hK _ _ (Grow.refl _) rfl
  intro w1 hg
  refine upon_w' (js := [0, 1, 2, 3, 4, 5, 6, 7, 8]) (by rfl) ?_
  refine upon_e (some 81) (upon_e (some 82) (upon_e (some 83) (upon_e (some 84) (upon_e (some 85) (upon_e (some 86) (upon_e (some 87) (upon_e (some 88) (upon_e (some 89) (upon_n ?_)))))))))
  have h9 := HW.out.below hg
  have H9 := hid h9
  have hfz := h9.fz
  have cd1 := h9.cell (ocH O s q hq10)
  have cd2 := h9.cell (ocT O s q hq10)
  clear h9 hg
  go_wp2_with fail
  go_meet
  rw [HS.out]
  exact ⟨s, H9.out.date q hq10 true _⟩
end
section
open Go.RowKit
set_option linter.unusedVariables false
set_option linter.unusedSimpArgs false
set_option maxRecDepth 1000000
set_option maxHeartbeats 16000000
theorem obj_sw2 {w W : World} {x y : RawD} {b0 b5 b7 : Nat} {O : ObjD} {s : ObjV} (sl0 sl1 sl2 sl3 sl4 sl6 sl8 sl9 sl10 sl11 sl12 sl13 sl14 sl15 sl16 sl17 sl18 sl19 sl20 sl21 sl22 sl23 sl24 sl25 sl26 sl27 sl28 sl29 sl30 sl31 sl32 sl33 sl34 sl35 sl36 sl37 sl38 sl39 sl40 sl41 sl42 sl43 sl44 sl45 sl46 sl47 sl48 sl49 sl50 sl51 sl52 sl53 sl54 sl55 sl56 sl57 sl58 sl59 sl60 sl61 sl62 sl63 sl64 sl65 sl66 sl67 sl68 sl69 sl70 sl72 sl73 sl74 sl75 sl76 sl77 sl78 sl79 sl80 sl81 sl82 sl83 sl84 sl85 sl86 sl87 sl88 sl89 sl90 sl91 sl92 sl93 sl94 sl95 sl96 sl97 sl98 sl99 sl100 sl101 sl102 sl103 sl104 sl105 sl106 sl107 sl108 sl109 sl110 sl111 sl112 sl113 sl114 sl115 sl116 sl117 sl118 sl119 sl120 sl121 sl122 sl123 sl124 sl125 sl126 sl127 sl128 sl129 sl130 sl131 sl132 sl133 sl134 sl135 sl136 sl137 sl138 sl139 sl140 sl141 sl142 sl143 sl144 sl145 sl146 sl147 sl148 sl149 sl150 sl151 sl152 sl153 sl154 sl155 sl156 sl157 sl158 sl159 sl160 sl161 sl162 sl163 sl164 sl165 sl166 sl167 sl168 sl169 sl170 sl171 sl172 sl173 sl174 sl175 sl176 sl177 sl178 sl179 sl180 sl181 sl182 sl183 sl184 sl185 sl186 sl187 sl188 sl189 sl190 sl191 sl192 sl193 sl194 sl195 sl196 sl197 sl198 sl199 sl200 sl201 sl202 sl203 sl204 sl205 sl206 sl207 sl208 sl209 sl210 sl211 sl212 sl213 sl214 sl215 sl216 sl217 sl218 sl219 sl220 sl221 sl222 sl223 sl224 sl225 sl226 sl227 sl228 : Value) (J K' : Act → World → Prop) (Q' : Exit → Act → World → Prop)
    (HW : Hid (HObj w W x b0 b5 O s)) (RY : Hid (W.heap[b7]? = some (.cells #[.int .i64 y.kind, .int .i64 y.a, .int .i64 y.b, .int .i64 y.c] 41 (0, 0)))) (NE7 : Hid (b7 ≠ b5)) (NE : Hid (b5 < b7)) (HOK : Hid y.ok)
    (HN : Hid (O.names.length ≤ 10 ∧ O.links.length ≤ 10 ∧ O.custom.length ≤ 10))
    (hq : pickN y.kind 9 = 2)
    (h1 : ∀ a' w', (∃ u8 u9 u10 u11 u12 u13 u14 u15 u55 u56 u57 u58 u59 u60 u61 u62 u63 u64 u65 u66 u67 u68 u69 u70 u72 u73 u74 u75 u76 u77 u78 u79 u80 u81 u82 u83 u84 u85 u86 u87 u88 u89 u90 u91 u92 u93 u94 u95 u96 u97 u98 u99 u100 u101 u102 u103 u104 u105 u106 u107 u108 u109 u110 u111 u112 u113 u114 u115 u116 u117 u118 u119 u120 u121 u122 u123 u124 u125 u126 u127 u128 u129 u130 u131 u132 u133 u134 u135 u136 u137 u138 u139 u140 u141 u142 u143 u144 u145 u146 u147 u148 u149 u150 u151 u152 u153 u154 u155 u156 u157 u158 u159 u160 u161 u162 u163 u164 u165 u166 u167 u168 u169 u170 u171 u172 u173 u174 u175 u176 u177 u178 u179 u180 u181 u182 u183 u184 u185 u186 u187 u188 u189 u190 u191 u192 u193 u194 u195 u196 u197 u198 u199 u200 u201 u202 u203 u204 u205 u206 u207 u208 u209 u210 u211 u212 u213 u214 u215 u216 u217 u218 u219 : Value, (∃ s', HObj w w' x b0 b5 (objStep O y) s') ∧ a' = ⟨#[sl0, sl1, sl2, sl3, sl4, .pointer (some ⟨b5, 0, none⟩), sl6, .pointer (some ⟨b7, 0, none⟩), u8, u9, u10, u11, u12, u13, u14, u15, sl16, sl17, sl18, sl19, sl20, sl21, sl22, sl23, sl24, sl25, sl26, sl27, sl28, sl29, sl30, sl31, sl32, sl33, sl34, sl35, sl36, sl37, sl38, sl39, sl40, sl41, sl42, sl43, sl44, sl45, sl46, sl47, sl48, sl49, sl50, sl51, sl52, sl53, sl54, u55, u56, u57, u58, u59, u60, u61, u62, u63, u64, u65, u66, u67, u68, u69, u70, .int .i64 2, u72, u73, u74, u75, u76, u77, u78, u79, u80, u81, u82, u83, u84, u85, u86, u87, u88, u89, u90, u91, u92, u93, u94, u95, u96, u97, u98, u99, u100, u101, u102, u103, u104, u105, u106, u107, u108, u109, u110, u111, u112, u113, u114, u115, u116, u117, u118, u119, u120, u121, u122, u123, u124, u125, u126, u127, u128, u129, u130, u131, u132, u133, u134, u135, u136, u137, u138, u139, u140, u141, u142, u143, u144, u145, u146, u147, u148, u149, u150, u151, u152, u153, u154, u155, u156, u157, u158, u159, u160, u161, u162, u163, u164, u165, u166, u167, u168, u169, u170, u171, u172, u173, u174, u175, u176, u177, u178, u179, u180, u181, u182, u183, u184, u185, u186, u187, u188, u189, u190, u191, u192, u193, u194, u195, u196, u197, u198, u199, u200, u201, u202, u203, u204, u205, u206, u207, u208, u209, u210, u211, u212, u213, u214, u215, u216, u217, u218, u219, sl220, sl221, sl222, sl223, sl224, sl225, sl226, sl227, sl228], []⟩) → J a' w') (h2 : ∀ a' w', Met J a' w' → K' a' w') :
    Code.wp Tryd.prog objSw (Exit.then K' Q') ⟨#[sl0, sl1, sl2, sl3, sl4, .pointer (some ⟨b5, 0, none⟩), sl6, .pointer (some ⟨b7, 0, none⟩), sl8, sl9, sl10, sl11, sl12, sl13, sl14, sl15, sl16, sl17, sl18, sl19, sl20, sl21, sl22, sl23, sl24, sl25, sl26, sl27, sl28, sl29, sl30, sl31, sl32, sl33, sl34, sl35, sl36, sl37, sl38, sl39, sl40, sl41, sl42, sl43, sl44, sl45, sl46, sl47, sl48, sl49, sl50, sl51, sl52, sl53, sl54, sl55, sl56, sl57, sl58, sl59, sl60, sl61, sl62, sl63, sl64, sl65, sl66, sl67, sl68, sl69, sl70, .int .i64 2, sl72, sl73, sl74, sl75, sl76, sl77, sl78, sl79, sl80, sl81, sl82, sl83, sl84, sl85, sl86, sl87, sl88, sl89, sl90, sl91, sl92, sl93, sl94, sl95, sl96, sl97, sl98, sl99, sl100, sl101, sl102, sl103, sl104, sl105, sl106, sl107, sl108, sl109, sl110, sl111, sl112, sl113, sl114, sl115, sl116, sl117, sl118, sl119, sl120, sl121, sl122, sl123, sl124, sl125, sl126, sl127, sl128, sl129, sl130, sl131, sl132, sl133, sl134, sl135, sl136, sl137, sl138, sl139, sl140, sl141, sl142, sl143, sl144, sl145, sl146, sl147, sl148, sl149, sl150, sl151, sl152, sl153, sl154, sl155, sl156, sl157, sl158, sl159, sl160, sl161, sl162, sl163, sl164, sl165, sl166, sl167, sl168, sl169, sl170, sl171, sl172, sl173, sl174, sl175, sl176, sl177, sl178, sl179, sl180, sl181, sl182, sl183, sl184, sl185, sl186, sl187, sl188, sl189, sl190, sl191, sl192, sl193, sl194, sl195, sl196, sl197, sl198, sl199, sl200, sl201, sl202, sl203, sl204, sl205, sl206, sl207, sl208, sl209, sl210, sl211, sl212, sl213, sl214, sl215, sl216, sl217, sl218, sl219, sl220, sl221, sl222, sl223, sl224, sl225, sl226, sl227, sl228], []⟩ W := by
  conv => arg 2; whnf
  have HS : Hid (objStep O y = O.setDate (pickN y.a 10) (true, pick y.b 60)) := by simp [objStep, hq, Hid]
  clear hq
  have hq10 := pickN_lt y.a 10 (by omega)
  have hqe : pick y.a 10 = (pickN y.a 10 : Int) := pickN_eq y.a 10 (by omega)
  have HQE := hid hqe; clear hqe
  generalize pickN y.a 10 = q at *
  go_upto_region 12 with (fail)
  refine wp_region_each 9 [.eq (.pointer (some ⟨b7, 1, none⟩)), .eq (.int .i64 y.a), .eq (.int .i64 (q : Int)), .eq (.pointer (some ⟨b7, 2, none⟩)), .eq (.int .i64 y.b), .eq (.int .i64 (pick y.b 60)), .eq (.agg #[.bool true, .int .i64 (pick y.b 60)]), .eq (.pointer (some ⟨b5, 7, none⟩)), .eq (.pointer (some ⟨b5, 7 + q * 2, none⟩))] (by kernel_rfl) (by kernel_rfl) (by kernel_rfl) (by kernel_rfl) ?_ ?_
  · as_aux_lemma =>
      refine each_5 ?_ ?_ ?_ ?_ ?_ (each_c ?_ (each_c ?_ (each_c ?_ (each_c ?_ (each_n)))))
      · intro w1 hg Ar seen
        have s7 := seen.sl 7 (.pointer (some ⟨b7, 0, none⟩))
        refine does_plain rfl fun K Q' hK => ?_
        go_simp; exact hK _ _ (Grow.refl _) rfl
      · intro w1 hg Ar seen
        have e0 := seen.de 0 81
        refine does_plain rfl fun K Q' hK => ?_
        have hc := cell_of_block (j := 1) ((hg.block _ (block_lt RY.out)).trans RY.out) rfl
        go_simp; exact hK _ _ (Grow.refl _) rfl
      · intro w1 hg Ar seen
        have e1 := seen.de 1 82
        refine does_plain rfl fun K Q' hK => ?_
        go_simp
        refine (pick_any y.a 10 _ (by omega) (by omega)).mono ?_
        rintro e u ⟨rfl, rfl⟩
        rw [HQE.out]
        exact hK _ _ (Grow.refl _) rfl
      · intro w1 hg Ar seen
        have s7 := seen.sl 7 (.pointer (some ⟨b7, 0, none⟩))
        refine does_plain rfl fun K Q' hK => ?_
        go_simp; exact hK _ _ (Grow.refl _) rfl
      · intro w1 hg Ar seen
        have e3 := seen.de 3 84
        refine does_plain rfl fun K Q' hK => ?_
        have hc := cell_of_block (j := 2) ((hg.block _ (block_lt RY.out)).trans RY.out) rfl
        go_simp; exact hK _ _ (Grow.refl _) rfl
      · intro w1 hg Ar seen
        have e4 := seen.de 4 85
        refine does_plain rfl fun K Q' hK => ?_
        go_simp
        refine (pick_any (y.b) 60 _ (by omega) (by omega)).mono ?_
        rintro e u ⟨rfl, rfl⟩
        exact hK _ _ (Grow.refl _) rfl
      · intro w1 hg Ar seen
        have e5 := seen.de 5 86
        refine does_plain rfl fun K Q' hK => ?_
        go_simp; exact hK _ _ (Grow.refl _) rfl
      · intro w1 hg Ar seen
        have s5 := seen.sl 5 (.pointer (some ⟨b5, 0, none⟩))
        refine does_plain rfl fun K Q' hK => ?_
        go_simp; exact hK _ _ (Grow.refl _) rfl
      · intro w1 hg Ar seen
        have e2 := seen.de 2 83
        have e7 := seen.de 7 88
        refine does_plain rfl fun K Q' hK => ?_
        have hqi : (q : Int) < 10 := by omega
        go_simp; exact hK _ _ (Grow.refl _) rfl
  intro w1 hg
  refine upon_w' (js := [0, 1, 2, 3, 4, 5, 6, 7, 8]) (by rfl) ?_
  refine upon_e (some 81) (upon_e (some 82) (upon_e (some 83) (upon_e (some 84) (upon_e (some 85) (upon_e (some 86) (upon_e (some 87) (upon_e (some 88) (upon_e (some 89) (upon_n ?_)))))))))
  have h9 := HW.out.below hg
  have H9 := hid h9
  have hfz := h9.fz
  have cd1 := h9.cell (ocH O s q hq10)
  have cd2 := h9.cell (ocT O s q hq10)
  clear h9 hg
  go_wp2_with fail
  go_meet
  rw [HS.out]
  exact ⟨s, H9.out.date q hq10 true _⟩
end
section
open Go.RowKit
set_option linter.unusedVariables false
set_option linter.unusedSimpArgs false
set_option maxRecDepth 1000000
set_option maxHeartbeats 16000000
theorem obj_sw3 {w W : World} {x y : RawD} {b0 b5 b7 : Nat} {O : ObjD} {s : ObjV} (sl0 sl1 sl2 sl3 sl4 sl6 sl8 sl9 sl10 sl11 sl12 sl13 sl14 sl15 sl16 sl17 sl18 sl19 sl20 sl21 sl22 sl23 sl24 sl25 sl26 sl27 sl28 sl29 sl30 sl31 sl32 sl33 sl34 sl35 sl36 sl37 sl38 sl39 sl40 sl41 sl42 sl43 sl44 sl45 sl46 sl47 sl48 sl49 sl50 sl51 sl52 sl53 sl54 sl55 sl56 sl57 sl58 sl59 sl60 sl61 sl62 sl63 sl64 sl65 sl66 sl67 sl68 sl69 sl70 sl72 sl73 sl74 sl75 sl76 sl77 sl78 sl79 sl80 sl81 sl82 sl83 sl84 sl85 sl86 sl87 sl88 sl89 sl90 sl91 sl92 sl93 sl94 sl95 sl96 sl97 sl98 sl99 sl100 sl101 sl102 sl103 sl104 sl105 sl106 sl107 sl108 sl109 sl110 sl111 sl112 sl113 sl114 sl115 sl116 sl117 sl118 sl119 sl120 sl121 sl122 sl123 sl124 sl125 sl126 sl127 sl128 sl129 sl130 sl131 sl132 sl133 sl134 sl135 sl136 sl137 sl138 sl139 sl140 sl141 sl142 sl143 sl144 sl145 sl146 sl147 sl148 sl149 sl150 sl151 sl152 sl153 sl154 sl155 sl156 sl157 sl158 sl159 sl160 sl161 sl162 sl163 sl164 sl165 sl166 sl167 sl168 sl169 sl170 sl171 sl172 sl173 sl174 sl175 sl176 sl177 sl178 sl179 sl180 sl181 sl182 sl183 sl184 sl185 sl186 sl187 sl188 sl189 sl190 sl191 sl192 sl193 sl194 sl195 sl196 sl197 sl198 sl199 sl200 sl201 sl202 sl203 sl204 sl205 sl206 sl207 sl208 sl209 sl210 sl211 sl212 sl213 sl214 sl215 sl216 sl217 sl218 sl219 sl220 sl221 sl222 sl223 sl224 sl225 sl226 sl227 sl228 : Value) (J K' : Act → World → Prop) (Q' : Exit → Act → World → Prop)
    (HW : Hid (HObj w W x b0 b5 O s)) (RY : Hid (W.heap[b7]? = some (.cells #[.int .i64 y.kind, .int .i64 y.a, .int .i64 y.b, .int .i64 y.c] 41 (0, 0)))) (NE7 : Hid (b7 ≠ b5)) (NE : Hid (b5 < b7)) (HOK : Hid y.ok)
    (HN : Hid (O.names.length ≤ 10 ∧ O.links.length ≤ 10 ∧ O.custom.length ≤ 10))
    (hq : pickN y.kind 9 = 3)
    (h1 : ∀ a' w', (∃ u8 u9 u10 u11 u12 u13 u14 u15 u55 u56 u57 u58 u59 u60 u61 u62 u63 u64 u65 u66 u67 u68 u69 u70 u72 u73 u74 u75 u76 u77 u78 u79 u80 u81 u82 u83 u84 u85 u86 u87 u88 u89 u90 u91 u92 u93 u94 u95 u96 u97 u98 u99 u100 u101 u102 u103 u104 u105 u106 u107 u108 u109 u110 u111 u112 u113 u114 u115 u116 u117 u118 u119 u120 u121 u122 u123 u124 u125 u126 u127 u128 u129 u130 u131 u132 u133 u134 u135 u136 u137 u138 u139 u140 u141 u142 u143 u144 u145 u146 u147 u148 u149 u150 u151 u152 u153 u154 u155 u156 u157 u158 u159 u160 u161 u162 u163 u164 u165 u166 u167 u168 u169 u170 u171 u172 u173 u174 u175 u176 u177 u178 u179 u180 u181 u182 u183 u184 u185 u186 u187 u188 u189 u190 u191 u192 u193 u194 u195 u196 u197 u198 u199 u200 u201 u202 u203 u204 u205 u206 u207 u208 u209 u210 u211 u212 u213 u214 u215 u216 u217 u218 u219 : Value, (∃ s', HObj w w' x b0 b5 (objStep O y) s') ∧ a' = ⟨#[sl0, sl1, sl2, sl3, sl4, .pointer (some ⟨b5, 0, none⟩), sl6, .pointer (some ⟨b7, 0, none⟩), u8, u9, u10, u11, u12, u13, u14, u15, sl16, sl17, sl18, sl19, sl20, sl21, sl22, sl23, sl24, sl25, sl26, sl27, sl28, sl29, sl30, sl31, sl32, sl33, sl34, sl35, sl36, sl37, sl38, sl39, sl40, sl41, sl42, sl43, sl44, sl45, sl46, sl47, sl48, sl49, sl50, sl51, sl52, sl53, sl54, u55, u56, u57, u58, u59, u60, u61, u62, u63, u64, u65, u66, u67, u68, u69, u70, .int .i64 3, u72, u73, u74, u75, u76, u77, u78, u79, u80, u81, u82, u83, u84, u85, u86, u87, u88, u89, u90, u91, u92, u93, u94, u95, u96, u97, u98, u99, u100, u101, u102, u103, u104, u105, u106, u107, u108, u109, u110, u111, u112, u113, u114, u115, u116, u117, u118, u119, u120, u121, u122, u123, u124, u125, u126, u127, u128, u129, u130, u131, u132, u133, u134, u135, u136, u137, u138, u139, u140, u141, u142, u143, u144, u145, u146, u147, u148, u149, u150, u151, u152, u153, u154, u155, u156, u157, u158, u159, u160, u161, u162, u163, u164, u165, u166, u167, u168, u169, u170, u171, u172, u173, u174, u175, u176, u177, u178, u179, u180, u181, u182, u183, u184, u185, u186, u187, u188, u189, u190, u191, u192, u193, u194, u195, u196, u197, u198, u199, u200, u201, u202, u203, u204, u205, u206, u207, u208, u209, u210, u211, u212, u213, u214, u215, u216, u217, u218, u219, sl220, sl221, sl222, sl223, sl224, sl225, sl226, sl227, sl228], []⟩) → J a' w') (h2 : ∀ a' w', Met J a' w' → K' a' w') :
    Code.wp Tryd.prog objSw (Exit.then K' Q') ⟨#[sl0, sl1, sl2, sl3, sl4, .pointer (some ⟨b5, 0, none⟩), sl6, .pointer (some ⟨b7, 0, none⟩), sl8, sl9, sl10, sl11, sl12, sl13, sl14, sl15, sl16, sl17, sl18, sl19, sl20, sl21, sl22, sl23, sl24, sl25, sl26, sl27, sl28, sl29, sl30, sl31, sl32, sl33, sl34, sl35, sl36, sl37, sl38, sl39, sl40, sl41, sl42, sl43, sl44, sl45, sl46, sl47, sl48, sl49, sl50, sl51, sl52, sl53, sl54, sl55, sl56, sl57, sl58, sl59, sl60, sl61, sl62, sl63, sl64, sl65, sl66, sl67, sl68, sl69, sl70, .int .i64 3, sl72, sl73, sl74, sl75, sl76, sl77, sl78, sl79, sl80, sl81, sl82, sl83, sl84, sl85, sl86, sl87, sl88, sl89, sl90, sl91, sl92, sl93, sl94, sl95, sl96, sl97, sl98, sl99, sl100, sl101, sl102, sl103, sl104, sl105, sl106, sl107, sl108, sl109, sl110, sl111, sl112, sl113, sl114, sl115, sl116, sl117, sl118, sl119, sl120, sl121, sl122, sl123, sl124, sl125, sl126, sl127, sl128, sl129, sl130, sl131, sl132, sl133, sl134, sl135, sl136, sl137, sl138, sl139, sl140, sl141, sl142, sl143, sl144, sl145, sl146, sl147, sl148, sl149, sl150, sl151, sl152, sl153, sl154, sl155, sl156, sl157, sl158, sl159, sl160, sl161, sl162, sl163, sl164, sl165, sl166, sl167, sl168, sl169, sl170, sl171, sl172, sl173, sl174, sl175, sl176, sl177, sl178, sl179, sl180, sl181, sl182, sl183, sl184, sl185, sl186, sl187, sl188, sl189, sl190, sl191, sl192, sl193, sl194, sl195, sl196, sl197, sl198, sl199, sl200, sl201, sl202, sl203, sl204, sl205, sl206, sl207, sl208, sl209, sl210, sl211, sl212, sl213, sl214, sl215, sl216, sl217, sl218, sl219, sl220, sl221, sl222, sl223, sl224, sl225, sl226, sl227, sl228], []⟩ W := by
  conv => arg 2; whnf
  have HS : Hid (objStep O y = if strMem (nameOf y) O.names = true then O else { O with names := O.names ++ [nameOf y] }) := by simp [objStep, hq, Hid]
  clear hq
  have hpe : pick y.a 5 = (pickN y.a 5 : Int) := pickN_eq y.a 5 (by omega)
  have HP := hid hpe; clear hpe
  have HL3 := hid (pickN_lt y.a 5 (by omega))
  have hbu : ∀ w, (Instr.build 100 #[(0, .string ⟨#[111, 110, 101]⟩), (1, .string ⟨#[116, 119, 111]⟩), (2, .string ⟨#[116, 104, 114, 101, 101]⟩), (3, .string ⟨#[102, 111, 117, 114]⟩), (4, .string ⟨#[102, 105, 118, 101]⟩)]).run Tryd.prog w = .ok (.agg (strsA nameL)) w := fun w => by kernel_rfl
  have HBU := hid hbu; clear hbu
  have HG3 : Hid ((strsA nameL)[pickN y.a 5]? = some (.string (nameOf y))) := strsA_get nameL (pickN y.a 5) (by have := HL3.out; simpa [nameL] using this)
  generalize strsA nameL = SA at *
  have y1 := cell_of_block (j := 1) RY.out rfl
  go_upto_region 14 with (fail)
  refine wp_region_lit ?_
  refine wpList_build_obj rfl 100 _ rfl #[(0, .string ⟨#[111, 110, 101]⟩), (1, .string ⟨#[116, 119, 111]⟩), (2, .string ⟨#[116, 104, 114, 101, 101]⟩), (3, .string ⟨#[102, 111, 117, 114]⟩), (4, .string ⟨#[102, 105, 118, 101]⟩)] (by simp [Act.eval]) _ (HBU.out _) ?_
  go_simp
  go_wp2_with fail
  refine (pick_any y.a 5 _ (by omega) (by omega)).mono ?_
  rintro e u ⟨rfl, rfl⟩
  rw [HP.out]
  have c29 := HW.out.cell (oc29 O s)
  have hnl : s.names.n = O.names.length := by have := HW.out.names.1; simp at this; exact this.symm
  have hn10 : s.names.n ≤ 10 := by have := HN.out.1; omega
  clear hnl
  go_wp2_with (refine wpList_index_row rfl _ _ rfl Tryd.underlying100 sizeStr Tryd.underlying9 rfl SA rfl _ rfl (pickN y.a 5) rfl _ HL3.out HG3.out ?_)
  refine (in_any s.names.a s.names.n s.names.c O.names (nameOf y) (strMem (nameOf y) O.names) _ (by have := RdC.of_own HW.out.names; rwa [Nat.mul_one] at this) (by omega) strMem_iff).mono ?_
  rintro e u ⟨rfl, rfl⟩
  cases hm : strMem (nameOf y) O.names with
  | true =>
    have HS2 : Hid (objStep O y = O) := by have := HS.out; rw [hm] at this; simpa [Hid] using this
    clear HS hm
    go_wp2_with fail
    go_meet
    rw [HS2.out]
    exact ⟨s, HW.out⟩
  | false =>
    have HS2 : Hid (objStep O y = { O with names := O.names ++ [nameOf y] }) := by have := HS.out; rw [hm] at this; simpa [Hid] using this
    clear HS hm
    obtain ⟨i, hi, hz0, hz1, hz2⟩ := info_parts oInfoS
    go_wp2_with (at_builtin
                 go_must (refine wpList_append_c rfl _ _ 29 rfl (b5 + 1) 9 i _ 1 16 Tryd.underlying29 hi hz0 hz1 hz2 rfl (by decide) s.names.v s.names.n _ rfl (((Chg.refl [] _).alloc _).owns HW.out.names (fun k _ hm => by cases hm)) _ 1 _ [.string (nameOf y)] rfl (RdC.new _ _ _ _ [.string (nameOf y)] rfl 1 rfl _ (by simp)) (strs_one [nameOf y]) (fun hx => by cases hx) (by unfold maxLen; omega) (by omega) (by have := HW.out.size; simp; omega) ?_)
                 intro a' c' w3 hown hgw hfr
                 have HO3 := hid hown; have HG4 := hid hgw; clear hown hgw hfr
                 have h3 := HW.out.grown5 HW.out.names HG4.out
                 have hc29 := cell_of_block h3 (oc29 O s)
                 have hfz : ∀ j, w3.frozen? ⟨b5, j, none⟩ = false := fun j => frozen_of_block h3
                 clear h3)
    go_meet
    rw [HS2.out]
    exact ⟨_, HW.out.app_names (nameOf y) _ a' _ c' HG4.out (by rw [List.map_append]; exact HO3.out)⟩
end
section
open Go.RowKit
set_option linter.unusedVariables false
set_option linter.unusedSimpArgs false
set_option maxRecDepth 1000000
set_option maxHeartbeats 16000000
theorem obj_sw4 {w W : World} {x y : RawD} {b0 b5 b7 : Nat} {O : ObjD} {s : ObjV} (sl0 sl1 sl2 sl3 sl4 sl6 sl8 sl9 sl10 sl11 sl12 sl13 sl14 sl15 sl16 sl17 sl18 sl19 sl20 sl21 sl22 sl23 sl24 sl25 sl26 sl27 sl28 sl29 sl30 sl31 sl32 sl33 sl34 sl35 sl36 sl37 sl38 sl39 sl40 sl41 sl42 sl43 sl44 sl45 sl46 sl47 sl48 sl49 sl50 sl51 sl52 sl53 sl54 sl55 sl56 sl57 sl58 sl59 sl60 sl61 sl62 sl63 sl64 sl65 sl66 sl67 sl68 sl69 sl70 sl72 sl73 sl74 sl75 sl76 sl77 sl78 sl79 sl80 sl81 sl82 sl83 sl84 sl85 sl86 sl87 sl88 sl89 sl90 sl91 sl92 sl93 sl94 sl95 sl96 sl97 sl98 sl99 sl100 sl101 sl102 sl103 sl104 sl105 sl106 sl107 sl108 sl109 sl110 sl111 sl112 sl113 sl114 sl115 sl116 sl117 sl118 sl119 sl120 sl121 sl122 sl123 sl124 sl125 sl126 sl127 sl128 sl129 sl130 sl131 sl132 sl133 sl134 sl135 sl136 sl137 sl138 sl139 sl140 sl141 sl142 sl143 sl144 sl145 sl146 sl147 sl148 sl149 sl150 sl151 sl152 sl153 sl154 sl155 sl156 sl157 sl158 sl159 sl160 sl161 sl162 sl163 sl164 sl165 sl166 sl167 sl168 sl169 sl170 sl171 sl172 sl173 sl174 sl175 sl176 sl177 sl178 sl179 sl180 sl181 sl182 sl183 sl184 sl185 sl186 sl187 sl188 sl189 sl190 sl191 sl192 sl193 sl194 sl195 sl196 sl197 sl198 sl199 sl200 sl201 sl202 sl203 sl204 sl205 sl206 sl207 sl208 sl209 sl210 sl211 sl212 sl213 sl214 sl215 sl216 sl217 sl218 sl219 sl220 sl221 sl222 sl223 sl224 sl225 sl226 sl227 sl228 : Value) (J K' : Act → World → Prop) (Q' : Exit → Act → World → Prop)
    (HW : Hid (HObj w W x b0 b5 O s)) (RY : Hid (W.heap[b7]? = some (.cells #[.int .i64 y.kind, .int .i64 y.a, .int .i64 y.b, .int .i64 y.c] 41 (0, 0)))) (NE7 : Hid (b7 ≠ b5)) (NE : Hid (b5 < b7)) (HOK : Hid y.ok)
    (HN : Hid (O.names.length ≤ 10 ∧ O.links.length ≤ 10 ∧ O.custom.length ≤ 10))
    (hq : pickN y.kind 9 = 4)
    (h1 : ∀ a' w', (∃ u8 u9 u10 u11 u12 u13 u14 u15 u55 u56 u57 u58 u59 u60 u61 u62 u63 u64 u65 u66 u67 u68 u69 u70 u72 u73 u74 u75 u76 u77 u78 u79 u80 u81 u82 u83 u84 u85 u86 u87 u88 u89 u90 u91 u92 u93 u94 u95 u96 u97 u98 u99 u100 u101 u102 u103 u104 u105 u106 u107 u108 u109 u110 u111 u112 u113 u114 u115 u116 u117 u118 u119 u120 u121 u122 u123 u124 u125 u126 u127 u128 u129 u130 u131 u132 u133 u134 u135 u136 u137 u138 u139 u140 u141 u142 u143 u144 u145 u146 u147 u148 u149 u150 u151 u152 u153 u154 u155 u156 u157 u158 u159 u160 u161 u162 u163 u164 u165 u166 u167 u168 u169 u170 u171 u172 u173 u174 u175 u176 u177 u178 u179 u180 u181 u182 u183 u184 u185 u186 u187 u188 u189 u190 u191 u192 u193 u194 u195 u196 u197 u198 u199 u200 u201 u202 u203 u204 u205 u206 u207 u208 u209 u210 u211 u212 u213 u214 u215 u216 u217 u218 u219 : Value, (∃ s', HObj w w' x b0 b5 (objStep O y) s') ∧ a' = ⟨#[sl0, sl1, sl2, sl3, sl4, .pointer (some ⟨b5, 0, none⟩), sl6, .pointer (some ⟨b7, 0, none⟩), u8, u9, u10, u11, u12, u13, u14, u15, sl16, sl17, sl18, sl19, sl20, sl21, sl22, sl23, sl24, sl25, sl26, sl27, sl28, sl29, sl30, sl31, sl32, sl33, sl34, sl35, sl36, sl37, sl38, sl39, sl40, sl41, sl42, sl43, sl44, sl45, sl46, sl47, sl48, sl49, sl50, sl51, sl52, sl53, sl54, u55, u56, u57, u58, u59, u60, u61, u62, u63, u64, u65, u66, u67, u68, u69, u70, .int .i64 4, u72, u73, u74, u75, u76, u77, u78, u79, u80, u81, u82, u83, u84, u85, u86, u87, u88, u89, u90, u91, u92, u93, u94, u95, u96, u97, u98, u99, u100, u101, u102, u103, u104, u105, u106, u107, u108, u109, u110, u111, u112, u113, u114, u115, u116, u117, u118, u119, u120, u121, u122, u123, u124, u125, u126, u127, u128, u129, u130, u131, u132, u133, u134, u135, u136, u137, u138, u139, u140, u141, u142, u143, u144, u145, u146, u147, u148, u149, u150, u151, u152, u153, u154, u155, u156, u157, u158, u159, u160, u161, u162, u163, u164, u165, u166, u167, u168, u169, u170, u171, u172, u173, u174, u175, u176, u177, u178, u179, u180, u181, u182, u183, u184, u185, u186, u187, u188, u189, u190, u191, u192, u193, u194, u195, u196, u197, u198, u199, u200, u201, u202, u203, u204, u205, u206, u207, u208, u209, u210, u211, u212, u213, u214, u215, u216, u217, u218, u219, sl220, sl221, sl222, sl223, sl224, sl225, sl226, sl227, sl228], []⟩) → J a' w') (h2 : ∀ a' w', Met J a' w' → K' a' w') :
    Code.wp Tryd.prog objSw (Exit.then K' Q') ⟨#[sl0, sl1, sl2, sl3, sl4, .pointer (some ⟨b5, 0, none⟩), sl6, .pointer (some ⟨b7, 0, none⟩), sl8, sl9, sl10, sl11, sl12, sl13, sl14, sl15, sl16, sl17, sl18, sl19, sl20, sl21, sl22, sl23, sl24, sl25, sl26, sl27, sl28, sl29, sl30, sl31, sl32, sl33, sl34, sl35, sl36, sl37, sl38, sl39, sl40, sl41, sl42, sl43, sl44, sl45, sl46, sl47, sl48, sl49, sl50, sl51, sl52, sl53, sl54, sl55, sl56, sl57, sl58, sl59, sl60, sl61, sl62, sl63, sl64, sl65, sl66, sl67, sl68, sl69, sl70, .int .i64 4, sl72, sl73, sl74, sl75, sl76, sl77, sl78, sl79, sl80, sl81, sl82, sl83, sl84, sl85, sl86, sl87, sl88, sl89, sl90, sl91, sl92, sl93, sl94, sl95, sl96, sl97, sl98, sl99, sl100, sl101, sl102, sl103, sl104, sl105, sl106, sl107, sl108, sl109, sl110, sl111, sl112, sl113, sl114, sl115, sl116, sl117, sl118, sl119, sl120, sl121, sl122, sl123, sl124, sl125, sl126, sl127, sl128, sl129, sl130, sl131, sl132, sl133, sl134, sl135, sl136, sl137, sl138, sl139, sl140, sl141, sl142, sl143, sl144, sl145, sl146, sl147, sl148, sl149, sl150, sl151, sl152, sl153, sl154, sl155, sl156, sl157, sl158, sl159, sl160, sl161, sl162, sl163, sl164, sl165, sl166, sl167, sl168, sl169, sl170, sl171, sl172, sl173, sl174, sl175, sl176, sl177, sl178, sl179, sl180, sl181, sl182, sl183, sl184, sl185, sl186, sl187, sl188, sl189, sl190, sl191, sl192, sl193, sl194, sl195, sl196, sl197, sl198, sl199, sl200, sl201, sl202, sl203, sl204, sl205, sl206, sl207, sl208, sl209, sl210, sl211, sl212, sl213, sl214, sl215, sl216, sl217, sl218, sl219, sl220, sl221, sl222, sl223, sl224, sl225, sl226, sl227, sl228], []⟩ W := by
  conv => arg 2; whnf
  have HS : Hid (objStep O y = if linkMem (linkOf y) O.links = true then O else { O with links := O.links ++ [linkOf y] }) := by simp [objStep, hq, Hid]
  clear hq
  go_upto_region 18 with (fail)
  refine wp_region_each 9 [.eq (.pointer (some ⟨b7, 1, none⟩)), .eq (.int .i64 y.a), .eq (.int .i64 (pick y.a 5)), .eq (.int .i64 (linkOf y).1), .eq (.pointer (some ⟨b7, 2, none⟩)), .eq (.int .i64 y.b), .eq (.string (linkOf y).2), .eq (.agg #[.int .i64 (linkOf y).1, .string (linkOf y).2]), stPair W.heap.size 56] (by kernel_rfl) (by kernel_rfl) (by kernel_rfl) (by kernel_rfl) ?_ ?_
  · as_aux_lemma =>
      refine each_5 ?_ ?_ ?_ ?_ ?_ (each_c ?_ (each_c ?_ (each_c ?_ (each_c ?_ (each_n)))))
      · intro w1 hg Ar seen
        have s7 := seen.sl 7 (.pointer (some ⟨b7, 0, none⟩))
        refine does_plain rfl fun K Q' hK => ?_
        go_simp; exact hK _ _ (Grow.refl _) rfl
      · intro w1 hg Ar seen
        have e0 := seen.de 0 110
        refine does_plain rfl fun K Q' hK => ?_
        have hc := cell_of_block (j := 1) ((hg.block _ (block_lt RY.out)).trans RY.out) rfl
        go_simp; exact hK _ _ (Grow.refl _) rfl
      · intro w1 hg Ar seen
        have e1 := seen.de 1 111
        refine does_plain rfl fun K Q' hK => ?_
        go_simp
        refine (pick_any (y.a) 5 _ (by omega) (by omega)).mono ?_
        rintro e u ⟨rfl, rfl⟩
        exact hK _ _ (Grow.refl _) rfl
      · intro w1 hg Ar seen
        have e2 := seen.de 2 112
        refine does_plain rfl fun K Q' hK => ?_
        have hl := pick_lo y.a 5 (by omega); have hh := pick_hi y.a 5 (by omega); have hs : IntKind.i64.wrap (101 + pick y.a 5) = (linkOf y).1 := IntWalk.i64_in _ (by omega)
        go_simp; exact hK _ _ (Grow.refl _) rfl
      · intro w1 hg Ar seen
        have s7 := seen.sl 7 (.pointer (some ⟨b7, 0, none⟩))
        refine does_plain rfl fun K Q' hK => ?_
        go_simp; exact hK _ _ (Grow.refl _) rfl
      · intro w1 hg Ar seen
        have e4 := seen.de 4 114
        refine does_plain rfl fun K Q' hK => ?_
        have hc := cell_of_block (j := 2) ((hg.block _ (block_lt RY.out)).trans RY.out) rfl
        go_simp; exact hK _ _ (Grow.refl _) rfl
      · intro w1 hg Ar seen
        have e5 := seen.de 5 115
        refine does_plain rfl fun K Q' hK => ?_
        go_simp
        refine (handId_any y.b _).mono ?_
        rintro e u ⟨rfl, rfl⟩
        exact hK _ _ (Grow.refl _) rfl
      · intro w1 hg Ar seen
        have e3 := seen.de 3 113
        have e6 := seen.de 6 116
        refine does_plain rfl fun K Q' hK => ?_
        go_simp; exact hK _ _ (Grow.refl _) rfl
      · intro w1 hg Ar seen
        refine does_plain rfl fun K Q' hK => ?_
        go_simp
        exact hK _ _ ((Below.refl _ _).alloc (Nat.le_refl _) _) ⟨_, _, rfl, block_new _ _, rfl, hg.size⟩
  intro w1 hg
  refine upon_w' (js := [0, 1, 2, 3, 4, 5, 6, 7, 8]) (by rfl) ?_
  refine upon_e (some 110) (upon_e (some 111) (upon_e (some 112) (upon_e (some 113) (upon_e (some 114) (upon_e (some 115) (upon_e (some 116) (upon_e (some 117) (upon_v (some 9) fun v8 h8 => upon_n ?_))))))))
  go_simp
  obtain ⟨p, C, rfl, hp, hC, hlp⟩ := h8
  obtain ⟨z0, z1, rfl⟩ := pair_cells hC
  go_simp
  have hq0 := cell_of_block (j := 0) hp rfl
  have hq1 := cell_of_block (j := 1) hp rfl
  have hfz : ∀ j, w1.frozen? ⟨p, j, none⟩ = false := fun j => frozen_of_block hp
  have HPB := hid hp; have HLP := hid hlp; have HGG := hid hg
  clear hp hlp hg hC
  go_upto_block 3 with (fail)
  have H2 := hid (HW.out.below ((HGG.out.setCell (p := ⟨p, 0, none⟩) HLP.out (.int .i64 (linkOf y).1)).setCell (p := ⟨p, 1, none⟩) HLP.out (.string (linkOf y).2)))
  have RP := hid (block_setCell (j := 1) (block_setCell (j := 0) HPB.out (.int .i64 (linkOf y).1)) (.string (linkOf y).2))
  clear HPB HLP HGG HW hq0 hq1 hfz RY NE NE7
  generalize (w1.setCell ⟨p, 0, none⟩ (.int .i64 (linkOf y).1)).setCell ⟨p, 1, none⟩ (.string (linkOf y).2) = W2 at *
  have hll : O.links.length = s.links.n := by have := H2.out.links.1; unfold linkCells at this; rw [flat_len] at this; omega
  have hs10 : s.links.n ≤ 10 := by have := HN.out; omega
  have HLL := hid hll; clear hll
  go_cut [10] from 72 to 219 (fun u wx => u = .bool (linkMem (linkOf y) O.links) ∧ Below W2.heap.size W2 wx)
  case first =>
    go_wp2_with fail
    go_loopw [10, 11] (fun u v wr => ∃ k : Nat, k ≤ s.links.n ∧ u = .bool (linkMem (linkOf y) (O.links.take k)) ∧ v = .int .i64 k ∧ Below W2.heap.size W2 wr) (fun _ v _ => s.links.n - (intOf v).toNat)
    case atStart => exact ⟨0, Nat.zero_le _, rfl, rfl, Below.refl _ _⟩
    case round =>
      obtain ⟨k, hk, rfl, rfl, hgr⟩ := hrel
      have HG := hid hgr; clear hgr
      have HQ := hid (H2.out.below HG.out)
      have RQ := hid ((HG.out.block _ (block_lt RP.out)).trans RP.out)
      have ca := HQ.out.cell (oc30 O s)
      by_cases hlt : k < s.links.n
      · obtain ⟨ba, oa, z, ha, hz, hc1, hc2⟩ := (SlR.of_own HQ.out.links (by omega)).pair hlt
        have HE : Hid (linkMem (linkOf y) (O.links.take (k + 1)) = (linkMem (linkOf y) (O.links.take k) || ((z).1 == (linkOf y).1 && strEq (z).2 (linkOf y).2))) := by
          show _ = _
          unfold linkMem
          rw [List.take_add_one, hz]
          simp [List.any_append]
        rw [ha] at ca
        have CA := hid ca; have C1 := hid hc1; have C2 := hid hc2
        clear ca ha hz hc1 hc2
        have ca' := CA.out
        go_upto_region 23 with (fail)
        clear ca'
        cases hm : linkMem (linkOf y) (O.links.take k) with
        | true =>
          rw [hm] at HE
          refine wp_region_each 10 [.eq (.bool true), .eq (.bool true), .eq undef, .eq undef, .eq undef, .eq undef, .eq undef, .eq undef, .eq undef, .eq (.bool true)] (by kernel_rfl) (by kernel_rfl) (by kernel_rfl) (by kernel_rfl) ?_ ?_
          · as_aux_lemma =>
              refine each_5 ?_ ?_ ?_ ?_ ?_ (each_5 ?_ ?_ ?_ ?_ ?_ (each_n))
              · intro w1 hg Ar seen
                have s10 := seen.sl 10 (.bool true)
                refine does_plain rfl fun K Q' hK => ?_
                go_simp; exact hK _ _ (Grow.refl _) rfl
              · intro w1 hg Ar seen
                have e0 := seen.de 0 125
                refine does_plain rfl fun K Q' hK => ?_
                go_simp; exact hK _ _ (Grow.refl _) rfl
              · intro w1 hg Ar seen
                have e1 := seen.de 1 126
                exact does_off rfl (by kernel_rfl) e1 ne_tf (Grow.refl _) rfl
              · intro w1 hg Ar seen
                have e1 := seen.de 1 126
                exact does_off rfl (by kernel_rfl) e1 ne_tf (Grow.refl _) rfl
              · intro w1 hg Ar seen
                have e1 := seen.de 1 126
                exact does_off rfl (by kernel_rfl) e1 ne_tf (Grow.refl _) rfl
              · intro w1 hg Ar seen
                have e1 := seen.de 1 126
                exact does_off rfl (by kernel_rfl) e1 ne_tf (Grow.refl _) rfl
              · intro w1 hg Ar seen
                have e1 := seen.de 1 126
                exact does_off rfl (by kernel_rfl) e1 ne_tf (Grow.refl _) rfl
              · intro w1 hg Ar seen
                have e1 := seen.de 1 126
                exact does_off rfl (by kernel_rfl) e1 ne_tf (Grow.refl _) rfl
              · intro w1 hg Ar seen
                have e1 := seen.de 1 126
                exact does_off rfl (by kernel_rfl) e1 ne_tf (Grow.refl _) rfl
              · intro w1 hg Ar seen
                have e1 := seen.de 1 126
                have e8 := seen.de 8 133
                refine does_plain rfl fun K Q' hK => ?_
                go_simp; exact hK _ _ (Grow.refl _) rfl
          intro w1 hg
          refine upon_w' (js := [0, 1, 2, 3, 4, 5, 6, 7, 8, 9]) (by rfl) ?_
          refine upon_e (some 125) (upon_e (some 126) (upon_e (some 127) (upon_e (some 128) (upon_e (some 129) (upon_e (some 130) (upon_e (some 131) (upon_e (some 132) (upon_e (some 133) (upon_e (some 134) (upon_n ?_))))))))))
          go_wp2_with fail
          go_roundw
          case rel =>
            have h1 : Value.bool true = .bool (linkMem (linkOf y) (O.links.take (k + 1))) := by rw [HE.out]; rfl
            first | exact ⟨k + 1, by omega, h1, by go_num, HG.out.trans (Below.mono hg HG.out.size)⟩ | ((repeat apply Exists.intro); exact ⟨⟨k + 1, by omega, h1, by go_num, HG.out.trans (Below.mono hg HG.out.size)⟩, rfl⟩)
          case measure => simp [intOf]; omega
        | false =>
          rw [hm] at HE
          refine wp_region_each 10 [.eq (.bool false), .eq (.bool false), .eq (.pointer (some ⟨b5, 30, none⟩)), .eq (.slice (some ⟨ba, oa, none⟩) s.links.n s.links.c), .eq (.int .i64 (k : Int)), .eq (.pointer (some ⟨ba, oa + k * 2, none⟩)), .eq (.agg #[.int .i64 (z).1, .string (z).2]), .eq (.agg #[.int .i64 (linkOf y).1, .string (linkOf y).2]), .eq (.bool ((z).1 == (linkOf y).1 && strEq (z).2 (linkOf y).2)), .eq (.bool ((z).1 == (linkOf y).1 && strEq (z).2 (linkOf y).2))] (by kernel_rfl) (by kernel_rfl) (by kernel_rfl) (by kernel_rfl) ?_ ?_
          · as_aux_lemma =>
              refine each_5 ?_ ?_ ?_ ?_ ?_ (each_5 ?_ ?_ ?_ ?_ ?_ (each_n))
              · intro w1 hg Ar seen
                have s10 := seen.sl 10 (.bool false)
                refine does_plain rfl fun K Q' hK => ?_
                go_simp; exact hK _ _ (Grow.refl _) rfl
              · intro w1 hg Ar seen
                have e0 := seen.de 0 125
                refine does_plain rfl fun K Q' hK => ?_
                go_simp; exact hK _ _ (Grow.refl _) rfl
              · intro w1 hg Ar seen
                have e1 := seen.de 1 126
                have s5 := seen.sl 5 (.pointer (some ⟨b5, 0, none⟩))
                refine does_on rfl (by kernel_rfl) e1 fun K Q' hK => ?_
                clear e1
                go_simp; exact hK _ _ (Grow.refl _) rfl
              · intro w1 hg Ar seen
                have e2 := seen.de 2 127
                have e1 := seen.de 1 126
                refine does_on rfl (by kernel_rfl) e1 fun K Q' hK => ?_
                clear e1
                have hc := cell_later hg CA.out
                go_simp; exact hK _ _ (Grow.refl _) rfl
              · intro w1 hg Ar seen
                have e1 := seen.de 1 126
                have s11 := seen.sl 11 (.int .i64 (k : Int))
                refine does_on rfl (by kernel_rfl) e1 fun K Q' hK => ?_
                clear e1
                go_simp; exact hK _ _ (Grow.refl _) rfl
              · intro w1 hg Ar seen
                have e3 := seen.de 3 128
                have e4 := seen.de 4 129
                have e1 := seen.de 1 126
                refine does_on rfl (by kernel_rfl) e1 fun K Q' hK => ?_
                clear e1
                go_simp; exact hK _ _ (Grow.refl _) rfl
              · intro w1 hg Ar seen
                have e5 := seen.de 5 130
                have e1 := seen.de 1 126
                refine does_on rfl (by kernel_rfl) e1 fun K Q' hK => ?_
                clear e1
                have hc := cell_later hg C1.out; have hc2 := cell_later hg C2.out
                go_simp; exact hK _ _ (Grow.refl _) rfl
              · intro w1 hg Ar seen
                have e1 := seen.de 1 126
                have s9 := seen.sl 9 (.pointer (some ⟨p, 0, none⟩))
                refine does_on rfl (by kernel_rfl) e1 fun K Q' hK => ?_
                clear e1
                have hc := cell_of_block (j := 0) ((hg.block _ (block_lt RQ.out)).trans RQ.out) rfl; have hc2 := cell_of_block (j := 1) ((hg.block _ (block_lt RQ.out)).trans RQ.out) rfl
                go_simp; exact hK _ _ (Grow.refl _) rfl
              · intro w1 hg Ar seen
                have e6 := seen.de 6 131
                have e7 := seen.de 7 132
                have e1 := seen.de 1 126
                refine does_on rfl (by kernel_rfl) e1 fun K Q' hK => ?_
                clear e1
                have he := fun w => eqLinkB 9998 z (linkOf y) w
                go_simp; exact hK _ _ (Grow.refl _) rfl
              · intro w1 hg Ar seen
                have e1 := seen.de 1 126
                have e8 := seen.de 8 133
                refine does_plain rfl fun K Q' hK => ?_
                go_simp; exact hK _ _ (Grow.refl _) rfl
          intro w1 hg
          refine upon_w' (js := [0, 1, 2, 3, 4, 5, 6, 7, 8, 9]) (by rfl) ?_
          refine upon_e (some 125) (upon_e (some 126) (upon_e (some 127) (upon_e (some 128) (upon_e (some 129) (upon_e (some 130) (upon_e (some 131) (upon_e (some 132) (upon_e (some 133) (upon_e (some 134) (upon_n ?_))))))))))
          go_wp2_with fail
          go_roundw
          case rel =>
            have h1 : Value.bool ((z).1 == (linkOf y).1 && strEq (z).2 (linkOf y).2) = .bool (linkMem (linkOf y) (O.links.take (k + 1))) := by rw [HE.out]; rfl
            first | exact ⟨k + 1, by omega, h1, by go_num, HG.out.trans (Below.mono hg HG.out.size)⟩ | ((repeat apply Exists.intro); exact ⟨⟨k + 1, by omega, h1, by go_num, HG.out.trans (Below.mono hg HG.out.size)⟩, rfl⟩)
          case measure => simp [intOf]; omega
      · obtain rfl : k = s.links.n := by omega
        go_wp2_with fail
        go_meet
        exact ⟨by rw [List.take_of_length_le (by rw [HLL.out]; exact Nat.le_refl _)], HG.out⟩
  case rest =>
    obtain ⟨rfl, hbx⟩ := hcut
    have H3 := hid (H2.out.below hbx)
    have RP3 := hid ((hbx.block _ (block_lt RP.out)).trans RP.out)
    clear H2 RP hbx
    cases hm : linkMem (linkOf y) O.links with
    | true =>
      have HC := True.intro
      have HS2 : Hid (objStep O y = O) := by have := HS.out; simpa [Hid, hm, HC] using this
      have c30 := H3.out.cell (oc30 O s)
      go_wp2_with fail
      go_meet
      rw [HS2.out]
      exact ⟨s, H3.out⟩
    | false =>
      have HC := True.intro
      have HS2 : Hid (objStep O y = { O with links := O.links ++ [linkOf y] }) := by have := HS.out; simpa [Hid, hm, HC] using this
      obtain ⟨i, hi, hz0, hz1, hz2⟩ := info_parts oInfoL
      have c30 := H3.out.cell (oc30 O s)
      have p0 := cell_of_block (j := 0) RP3.out rfl
      have p1 := cell_of_block (j := 1) RP3.out rfl
      go_wp2_with (at_builtin
                   go_must (refine wpList_append_c rfl _ _ 30 rfl (b5 + 1) 56 i _ 2 24 Tryd.underlying30 hi hz0 hz1 hz2 rfl (by decide) s.links.v s.links.n _ rfl (((Chg.refl [] _).alloc _).owns H3.out.links (fun k _ hm => by cases hm)) _ 1 _ [.int .i64 (linkOf y).1, .string (linkOf y).2] rfl (RdC.new _ _ _ _ [.int .i64 (linkOf y).1, .string (linkOf y).2] rfl 2 rfl _ (by simp)) (link_one [linkOf y]) (fun hx => by cases hx) (by unfold maxLen; omega) (by omega) (by have := H3.out.size; simp; omega) ?_)
                   intro a' c' w3 hown hgw hfr
                   have HO3 := hid hown; have HG4 := hid hgw; clear hown hgw hfr
                   have h3 := H3.out.grown5 H3.out.links HG4.out
                   have hc30 := cell_of_block h3 (oc30 O s)
                   have hfz : ∀ j, w3.frozen? ⟨b5, j, none⟩ = false := fun j => frozen_of_block h3
                   clear h3)
      go_meet
      rw [HS2.out]
      exact ⟨_, H3.out.app_links (linkOf y) _ a' _ c' HG4.out (by unfold linkCells; rw [List.flatMap_append]; exact HO3.out)⟩
end
section
open Go.RowKit
set_option linter.unusedVariables false
set_option linter.unusedSimpArgs false
set_option maxRecDepth 1000000
set_option maxHeartbeats 16000000
theorem obj_sw5 {w W : World} {x y : RawD} {b0 b5 b7 : Nat} {O : ObjD} {s : ObjV} (sl0 sl1 sl2 sl3 sl4 sl6 sl8 sl9 sl10 sl11 sl12 sl13 sl14 sl15 sl16 sl17 sl18 sl19 sl20 sl21 sl22 sl23 sl24 sl25 sl26 sl27 sl28 sl29 sl30 sl31 sl32 sl33 sl34 sl35 sl36 sl37 sl38 sl39 sl40 sl41 sl42 sl43 sl44 sl45 sl46 sl47 sl48 sl49 sl50 sl51 sl52 sl53 sl54 sl55 sl56 sl57 sl58 sl59 sl60 sl61 sl62 sl63 sl64 sl65 sl66 sl67 sl68 sl69 sl70 sl72 sl73 sl74 sl75 sl76 sl77 sl78 sl79 sl80 sl81 sl82 sl83 sl84 sl85 sl86 sl87 sl88 sl89 sl90 sl91 sl92 sl93 sl94 sl95 sl96 sl97 sl98 sl99 sl100 sl101 sl102 sl103 sl104 sl105 sl106 sl107 sl108 sl109 sl110 sl111 sl112 sl113 sl114 sl115 sl116 sl117 sl118 sl119 sl120 sl121 sl122 sl123 sl124 sl125 sl126 sl127 sl128 sl129 sl130 sl131 sl132 sl133 sl134 sl135 sl136 sl137 sl138 sl139 sl140 sl141 sl142 sl143 sl144 sl145 sl146 sl147 sl148 sl149 sl150 sl151 sl152 sl153 sl154 sl155 sl156 sl157 sl158 sl159 sl160 sl161 sl162 sl163 sl164 sl165 sl166 sl167 sl168 sl169 sl170 sl171 sl172 sl173 sl174 sl175 sl176 sl177 sl178 sl179 sl180 sl181 sl182 sl183 sl184 sl185 sl186 sl187 sl188 sl189 sl190 sl191 sl192 sl193 sl194 sl195 sl196 sl197 sl198 sl199 sl200 sl201 sl202 sl203 sl204 sl205 sl206 sl207 sl208 sl209 sl210 sl211 sl212 sl213 sl214 sl215 sl216 sl217 sl218 sl219 sl220 sl221 sl222 sl223 sl224 sl225 sl226 sl227 sl228 : Value) (J K' : Act → World → Prop) (Q' : Exit → Act → World → Prop)
    (HW : Hid (HObj w W x b0 b5 O s)) (RY : Hid (W.heap[b7]? = some (.cells #[.int .i64 y.kind, .int .i64 y.a, .int .i64 y.b, .int .i64 y.c] 41 (0, 0)))) (NE7 : Hid (b7 ≠ b5)) (NE : Hid (b5 < b7)) (HOK : Hid y.ok)
    (HN : Hid (O.names.length ≤ 10 ∧ O.links.length ≤ 10 ∧ O.custom.length ≤ 10))
    (hq : pickN y.kind 9 = 5)
    (h1 : ∀ a' w', (∃ u8 u9 u10 u11 u12 u13 u14 u15 u55 u56 u57 u58 u59 u60 u61 u62 u63 u64 u65 u66 u67 u68 u69 u70 u72 u73 u74 u75 u76 u77 u78 u79 u80 u81 u82 u83 u84 u85 u86 u87 u88 u89 u90 u91 u92 u93 u94 u95 u96 u97 u98 u99 u100 u101 u102 u103 u104 u105 u106 u107 u108 u109 u110 u111 u112 u113 u114 u115 u116 u117 u118 u119 u120 u121 u122 u123 u124 u125 u126 u127 u128 u129 u130 u131 u132 u133 u134 u135 u136 u137 u138 u139 u140 u141 u142 u143 u144 u145 u146 u147 u148 u149 u150 u151 u152 u153 u154 u155 u156 u157 u158 u159 u160 u161 u162 u163 u164 u165 u166 u167 u168 u169 u170 u171 u172 u173 u174 u175 u176 u177 u178 u179 u180 u181 u182 u183 u184 u185 u186 u187 u188 u189 u190 u191 u192 u193 u194 u195 u196 u197 u198 u199 u200 u201 u202 u203 u204 u205 u206 u207 u208 u209 u210 u211 u212 u213 u214 u215 u216 u217 u218 u219 : Value, (∃ s', HObj w w' x b0 b5 (objStep O y) s') ∧ a' = ⟨#[sl0, sl1, sl2, sl3, sl4, .pointer (some ⟨b5, 0, none⟩), sl6, .pointer (some ⟨b7, 0, none⟩), u8, u9, u10, u11, u12, u13, u14, u15, sl16, sl17, sl18, sl19, sl20, sl21, sl22, sl23, sl24, sl25, sl26, sl27, sl28, sl29, sl30, sl31, sl32, sl33, sl34, sl35, sl36, sl37, sl38, sl39, sl40, sl41, sl42, sl43, sl44, sl45, sl46, sl47, sl48, sl49, sl50, sl51, sl52, sl53, sl54, u55, u56, u57, u58, u59, u60, u61, u62, u63, u64, u65, u66, u67, u68, u69, u70, .int .i64 5, u72, u73, u74, u75, u76, u77, u78, u79, u80, u81, u82, u83, u84, u85, u86, u87, u88, u89, u90, u91, u92, u93, u94, u95, u96, u97, u98, u99, u100, u101, u102, u103, u104, u105, u106, u107, u108, u109, u110, u111, u112, u113, u114, u115, u116, u117, u118, u119, u120, u121, u122, u123, u124, u125, u126, u127, u128, u129, u130, u131, u132, u133, u134, u135, u136, u137, u138, u139, u140, u141, u142, u143, u144, u145, u146, u147, u148, u149, u150, u151, u152, u153, u154, u155, u156, u157, u158, u159, u160, u161, u162, u163, u164, u165, u166, u167, u168, u169, u170, u171, u172, u173, u174, u175, u176, u177, u178, u179, u180, u181, u182, u183, u184, u185, u186, u187, u188, u189, u190, u191, u192, u193, u194, u195, u196, u197, u198, u199, u200, u201, u202, u203, u204, u205, u206, u207, u208, u209, u210, u211, u212, u213, u214, u215, u216, u217, u218, u219, sl220, sl221, sl222, sl223, sl224, sl225, sl226, sl227, sl228], []⟩) → J a' w') (h2 : ∀ a' w', Met J a' w' → K' a' w') :
    Code.wp Tryd.prog objSw (Exit.then K' Q') ⟨#[sl0, sl1, sl2, sl3, sl4, .pointer (some ⟨b5, 0, none⟩), sl6, .pointer (some ⟨b7, 0, none⟩), sl8, sl9, sl10, sl11, sl12, sl13, sl14, sl15, sl16, sl17, sl18, sl19, sl20, sl21, sl22, sl23, sl24, sl25, sl26, sl27, sl28, sl29, sl30, sl31, sl32, sl33, sl34, sl35, sl36, sl37, sl38, sl39, sl40, sl41, sl42, sl43, sl44, sl45, sl46, sl47, sl48, sl49, sl50, sl51, sl52, sl53, sl54, sl55, sl56, sl57, sl58, sl59, sl60, sl61, sl62, sl63, sl64, sl65, sl66, sl67, sl68, sl69, sl70, .int .i64 5, sl72, sl73, sl74, sl75, sl76, sl77, sl78, sl79, sl80, sl81, sl82, sl83, sl84, sl85, sl86, sl87, sl88, sl89, sl90, sl91, sl92, sl93, sl94, sl95, sl96, sl97, sl98, sl99, sl100, sl101, sl102, sl103, sl104, sl105, sl106, sl107, sl108, sl109, sl110, sl111, sl112, sl113, sl114, sl115, sl116, sl117, sl118, sl119, sl120, sl121, sl122, sl123, sl124, sl125, sl126, sl127, sl128, sl129, sl130, sl131, sl132, sl133, sl134, sl135, sl136, sl137, sl138, sl139, sl140, sl141, sl142, sl143, sl144, sl145, sl146, sl147, sl148, sl149, sl150, sl151, sl152, sl153, sl154, sl155, sl156, sl157, sl158, sl159, sl160, sl161, sl162, sl163, sl164, sl165, sl166, sl167, sl168, sl169, sl170, sl171, sl172, sl173, sl174, sl175, sl176, sl177, sl178, sl179, sl180, sl181, sl182, sl183, sl184, sl185, sl186, sl187, sl188, sl189, sl190, sl191, sl192, sl193, sl194, sl195, sl196, sl197, sl198, sl199, sl200, sl201, sl202, sl203, sl204, sl205, sl206, sl207, sl208, sl209, sl210, sl211, sl212, sl213, sl214, sl215, sl216, sl217, sl218, sl219, sl220, sl221, sl222, sl223, sl224, sl225, sl226, sl227, sl228], []⟩ W := by
  conv => arg 2; whnf
  have HS : Hid (objStep O y = { O with limHas := true, total := 1 + pick y.a 50, count := 1 + pick y.a 50 - pick y.b (1 + pick y.a 50 + 1), unit := 1 + pick y.c 2 }) := by simp [objStep, hq, Hid]
  clear hq
  have y1 := cell_of_block (j := 1) RY.out rfl
  have hlo := pick_lo y.a 50 (by omega)
  have hhi := pick_hi y.a 50 (by omega)
  go_upto_region 28 with (go_at_call 21; refine (pick_any y.a 50 _ (by omega) (by omega)).mono ?_; rintro e u ⟨rfl, rfl⟩)
  obtain ⟨T, hT⟩ : ∃ T, T = 1 + pick y.a 50 := ⟨_, rfl⟩
  rw [← hT] at HS ⊢
  have hT1 : 1 ≤ T := by omega
  have hT2 : T ≤ 50 := by omega
  clear y1 hlo hhi hT
  refine wp_region_each 13 [.eq (.int .i64 T), .eq (.int .i64 T), .eq (.pointer (some ⟨b7, 2, none⟩)), .eq (.int .i64 y.b), .eq (.int .i64 T), .eq (.int .i64 (T + 1)), .eq (.int .i64 (pick y.b (T + 1))), .eq (.int .i64 (T - pick y.b (T + 1))), .eq (.pointer (some ⟨b7, 3, none⟩)), .eq (.int .i64 y.c), .eq (.int .i64 (pick y.c 2)), .eq (.int .i64 (1 + pick y.c 2)), .eq (.agg #[.bool true, .int .i64 T, .int .i64 (T - pick y.b (T + 1)), .int .i64 (1 + pick y.c 2)])] (by kernel_rfl) (by kernel_rfl) (by kernel_rfl) (by kernel_rfl) ?_ ?_
  · as_aux_lemma =>
      refine each_5 ?_ ?_ ?_ ?_ ?_ (each_5 ?_ ?_ ?_ ?_ ?_ (each_c ?_ (each_c ?_ (each_c ?_ (each_n)))))
      · intro w1 hg Ar seen
        have s12 := seen.sl 12 (.int .i64 T)
        refine does_plain rfl fun K Q' hK => ?_
        go_simp; exact hK _ _ (Grow.refl _) rfl
      · intro w1 hg Ar seen
        have s12 := seen.sl 12 (.int .i64 T)
        refine does_plain rfl fun K Q' hK => ?_
        go_simp; exact hK _ _ (Grow.refl _) rfl
      · intro w1 hg Ar seen
        have s7 := seen.sl 7 (.pointer (some ⟨b7, 0, none⟩))
        refine does_plain rfl fun K Q' hK => ?_
        go_simp; exact hK _ _ (Grow.refl _) rfl
      · intro w1 hg Ar seen
        have e2 := seen.de 2 151
        refine does_plain rfl fun K Q' hK => ?_
        have hc := cell_of_block (j := 2) ((hg.block _ (block_lt RY.out)).trans RY.out) rfl
        go_simp; exact hK _ _ (Grow.refl _) rfl
      · intro w1 hg Ar seen
        have s12 := seen.sl 12 (.int .i64 T)
        refine does_plain rfl fun K Q' hK => ?_
        go_simp; exact hK _ _ (Grow.refl _) rfl
      · intro w1 hg Ar seen
        have e4 := seen.de 4 153
        refine does_plain rfl fun K Q' hK => ?_
        have hs : IntKind.i64.wrap (T + 1) = T + 1 := IntWalk.i64_in _ (by omega)
        go_simp; exact hK _ _ (Grow.refl _) rfl
      · intro w1 hg Ar seen
        have e3 := seen.de 3 152
        have e5 := seen.de 5 154
        refine does_plain rfl fun K Q' hK => ?_
        go_simp
        refine (pick_any (y.b) (T + 1) _ (by omega) (by omega)).mono ?_
        rintro e u ⟨rfl, rfl⟩
        exact hK _ _ (Grow.refl _) rfl
      · intro w1 hg Ar seen
        have e1 := seen.de 1 150
        have e6 := seen.de 6 155
        refine does_plain rfl fun K Q' hK => ?_
        have hl := pick_lo y.b (T + 1) (by omega); have hh := pick_hi y.b (T + 1) (by omega); have hs : IntKind.i64.wrap (T - pick y.b (T + 1)) = T - pick y.b (T + 1) := IntWalk.i64_in _ (by omega)
        go_simp; exact hK _ _ (Grow.refl _) rfl
      · intro w1 hg Ar seen
        have s7 := seen.sl 7 (.pointer (some ⟨b7, 0, none⟩))
        refine does_plain rfl fun K Q' hK => ?_
        go_simp; exact hK _ _ (Grow.refl _) rfl
      · intro w1 hg Ar seen
        have e8 := seen.de 8 157
        refine does_plain rfl fun K Q' hK => ?_
        have hc := cell_of_block (j := 3) ((hg.block _ (block_lt RY.out)).trans RY.out) rfl
        go_simp; exact hK _ _ (Grow.refl _) rfl
      · intro w1 hg Ar seen
        have e9 := seen.de 9 158
        refine does_plain rfl fun K Q' hK => ?_
        go_simp
        refine (pick_any (y.c) 2 _ (by omega) (by omega)).mono ?_
        rintro e u ⟨rfl, rfl⟩
        exact hK _ _ (Grow.refl _) rfl
      · intro w1 hg Ar seen
        have e10 := seen.de 10 159
        refine does_plain rfl fun K Q' hK => ?_
        have hl := pick_lo y.c 2 (by omega); have hh := pick_hi y.c 2 (by omega); have hs : IntKind.i64.wrap (1 + pick y.c 2) = 1 + pick y.c 2 := IntWalk.i64_in _ (by omega)
        go_simp; exact hK _ _ (Grow.refl _) rfl
      · intro w1 hg Ar seen
        have e0 := seen.de 0 149
        have e7 := seen.de 7 156
        have e11 := seen.de 11 160
        refine does_plain rfl fun K Q' hK => ?_
        go_simp; exact hK _ _ (Grow.refl _) rfl
  intro w1 hg
  refine upon_w' (js := [0, 1, 2, 3, 4, 5, 6, 7, 8, 9, 10, 11, 12]) (by rfl) ?_
  refine upon_e (some 149) (upon_e (some 150) (upon_e (some 151) (upon_e (some 152) (upon_e (some 153) (upon_e (some 154) (upon_e (some 155) (upon_e (some 156) (upon_e (some 157) (upon_e (some 158) (upon_e (some 159) (upon_e (some 160) (upon_e (some 161) (upon_n ?_)))))))))))))
  have h9 := HW.out.below hg
  have H9 := hid h9
  have hfz := h9.fz
  have cd1 := h9.cell (oc32 O s)
  have cd2 := h9.cell (oc33 O s)
  have cd3 := h9.cell (oc34 O s)
  have cd4 := h9.cell (oc35 O s)
  clear h9 hg
  go_wp2_with fail
  go_meet
  rw [HS.out]
  exact ⟨s, H9.out.lim true _ _ _⟩
end
section
open Go.RowKit
set_option linter.unusedVariables false
set_option linter.unusedSimpArgs false
set_option maxRecDepth 1000000
set_option maxHeartbeats 16000000
theorem obj_sw6 {w W : World} {x y : RawD} {b0 b5 b7 : Nat} {O : ObjD} {s : ObjV} (sl0 sl1 sl2 sl3 sl4 sl6 sl8 sl9 sl10 sl11 sl12 sl13 sl14 sl15 sl16 sl17 sl18 sl19 sl20 sl21 sl22 sl23 sl24 sl25 sl26 sl27 sl28 sl29 sl30 sl31 sl32 sl33 sl34 sl35 sl36 sl37 sl38 sl39 sl40 sl41 sl42 sl43 sl44 sl45 sl46 sl47 sl48 sl49 sl50 sl51 sl52 sl53 sl54 sl55 sl56 sl57 sl58 sl59 sl60 sl61 sl62 sl63 sl64 sl65 sl66 sl67 sl68 sl69 sl70 sl72 sl73 sl74 sl75 sl76 sl77 sl78 sl79 sl80 sl81 sl82 sl83 sl84 sl85 sl86 sl87 sl88 sl89 sl90 sl91 sl92 sl93 sl94 sl95 sl96 sl97 sl98 sl99 sl100 sl101 sl102 sl103 sl104 sl105 sl106 sl107 sl108 sl109 sl110 sl111 sl112 sl113 sl114 sl115 sl116 sl117 sl118 sl119 sl120 sl121 sl122 sl123 sl124 sl125 sl126 sl127 sl128 sl129 sl130 sl131 sl132 sl133 sl134 sl135 sl136 sl137 sl138 sl139 sl140 sl141 sl142 sl143 sl144 sl145 sl146 sl147 sl148 sl149 sl150 sl151 sl152 sl153 sl154 sl155 sl156 sl157 sl158 sl159 sl160 sl161 sl162 sl163 sl164 sl165 sl166 sl167 sl168 sl169 sl170 sl171 sl172 sl173 sl174 sl175 sl176 sl177 sl178 sl179 sl180 sl181 sl182 sl183 sl184 sl185 sl186 sl187 sl188 sl189 sl190 sl191 sl192 sl193 sl194 sl195 sl196 sl197 sl198 sl199 sl200 sl201 sl202 sl203 sl204 sl205 sl206 sl207 sl208 sl209 sl210 sl211 sl212 sl213 sl214 sl215 sl216 sl217 sl218 sl219 sl220 sl221 sl222 sl223 sl224 sl225 sl226 sl227 sl228 : Value) (J K' : Act → World → Prop) (Q' : Exit → Act → World → Prop)
    (HW : Hid (HObj w W x b0 b5 O s)) (RY : Hid (W.heap[b7]? = some (.cells #[.int .i64 y.kind, .int .i64 y.a, .int .i64 y.b, .int .i64 y.c] 41 (0, 0)))) (NE7 : Hid (b7 ≠ b5)) (NE : Hid (b5 < b7)) (HOK : Hid y.ok)
    (HN : Hid (O.names.length ≤ 10 ∧ O.links.length ≤ 10 ∧ O.custom.length ≤ 10))
    (hq : pickN y.kind 9 = 6)
    (h1 : ∀ a' w', (∃ u8 u9 u10 u11 u12 u13 u14 u15 u55 u56 u57 u58 u59 u60 u61 u62 u63 u64 u65 u66 u67 u68 u69 u70 u72 u73 u74 u75 u76 u77 u78 u79 u80 u81 u82 u83 u84 u85 u86 u87 u88 u89 u90 u91 u92 u93 u94 u95 u96 u97 u98 u99 u100 u101 u102 u103 u104 u105 u106 u107 u108 u109 u110 u111 u112 u113 u114 u115 u116 u117 u118 u119 u120 u121 u122 u123 u124 u125 u126 u127 u128 u129 u130 u131 u132 u133 u134 u135 u136 u137 u138 u139 u140 u141 u142 u143 u144 u145 u146 u147 u148 u149 u150 u151 u152 u153 u154 u155 u156 u157 u158 u159 u160 u161 u162 u163 u164 u165 u166 u167 u168 u169 u170 u171 u172 u173 u174 u175 u176 u177 u178 u179 u180 u181 u182 u183 u184 u185 u186 u187 u188 u189 u190 u191 u192 u193 u194 u195 u196 u197 u198 u199 u200 u201 u202 u203 u204 u205 u206 u207 u208 u209 u210 u211 u212 u213 u214 u215 u216 u217 u218 u219 : Value, (∃ s', HObj w w' x b0 b5 (objStep O y) s') ∧ a' = ⟨#[sl0, sl1, sl2, sl3, sl4, .pointer (some ⟨b5, 0, none⟩), sl6, .pointer (some ⟨b7, 0, none⟩), u8, u9, u10, u11, u12, u13, u14, u15, sl16, sl17, sl18, sl19, sl20, sl21, sl22, sl23, sl24, sl25, sl26, sl27, sl28, sl29, sl30, sl31, sl32, sl33, sl34, sl35, sl36, sl37, sl38, sl39, sl40, sl41, sl42, sl43, sl44, sl45, sl46, sl47, sl48, sl49, sl50, sl51, sl52, sl53, sl54, u55, u56, u57, u58, u59, u60, u61, u62, u63, u64, u65, u66, u67, u68, u69, u70, .int .i64 6, u72, u73, u74, u75, u76, u77, u78, u79, u80, u81, u82, u83, u84, u85, u86, u87, u88, u89, u90, u91, u92, u93, u94, u95, u96, u97, u98, u99, u100, u101, u102, u103, u104, u105, u106, u107, u108, u109, u110, u111, u112, u113, u114, u115, u116, u117, u118, u119, u120, u121, u122, u123, u124, u125, u126, u127, u128, u129, u130, u131, u132, u133, u134, u135, u136, u137, u138, u139, u140, u141, u142, u143, u144, u145, u146, u147, u148, u149, u150, u151, u152, u153, u154, u155, u156, u157, u158, u159, u160, u161, u162, u163, u164, u165, u166, u167, u168, u169, u170, u171, u172, u173, u174, u175, u176, u177, u178, u179, u180, u181, u182, u183, u184, u185, u186, u187, u188, u189, u190, u191, u192, u193, u194, u195, u196, u197, u198, u199, u200, u201, u202, u203, u204, u205, u206, u207, u208, u209, u210, u211, u212, u213, u214, u215, u216, u217, u218, u219, sl220, sl221, sl222, sl223, sl224, sl225, sl226, sl227, sl228], []⟩) → J a' w') (h2 : ∀ a' w', Met J a' w' → K' a' w') :
    Code.wp Tryd.prog objSw (Exit.then K' Q') ⟨#[sl0, sl1, sl2, sl3, sl4, .pointer (some ⟨b5, 0, none⟩), sl6, .pointer (some ⟨b7, 0, none⟩), sl8, sl9, sl10, sl11, sl12, sl13, sl14, sl15, sl16, sl17, sl18, sl19, sl20, sl21, sl22, sl23, sl24, sl25, sl26, sl27, sl28, sl29, sl30, sl31, sl32, sl33, sl34, sl35, sl36, sl37, sl38, sl39, sl40, sl41, sl42, sl43, sl44, sl45, sl46, sl47, sl48, sl49, sl50, sl51, sl52, sl53, sl54, sl55, sl56, sl57, sl58, sl59, sl60, sl61, sl62, sl63, sl64, sl65, sl66, sl67, sl68, sl69, sl70, .int .i64 6, sl72, sl73, sl74, sl75, sl76, sl77, sl78, sl79, sl80, sl81, sl82, sl83, sl84, sl85, sl86, sl87, sl88, sl89, sl90, sl91, sl92, sl93, sl94, sl95, sl96, sl97, sl98, sl99, sl100, sl101, sl102, sl103, sl104, sl105, sl106, sl107, sl108, sl109, sl110, sl111, sl112, sl113, sl114, sl115, sl116, sl117, sl118, sl119, sl120, sl121, sl122, sl123, sl124, sl125, sl126, sl127, sl128, sl129, sl130, sl131, sl132, sl133, sl134, sl135, sl136, sl137, sl138, sl139, sl140, sl141, sl142, sl143, sl144, sl145, sl146, sl147, sl148, sl149, sl150, sl151, sl152, sl153, sl154, sl155, sl156, sl157, sl158, sl159, sl160, sl161, sl162, sl163, sl164, sl165, sl166, sl167, sl168, sl169, sl170, sl171, sl172, sl173, sl174, sl175, sl176, sl177, sl178, sl179, sl180, sl181, sl182, sl183, sl184, sl185, sl186, sl187, sl188, sl189, sl190, sl191, sl192, sl193, sl194, sl195, sl196, sl197, sl198, sl199, sl200, sl201, sl202, sl203, sl204, sl205, sl206, sl207, sl208, sl209, sl210, sl211, sl212, sl213, sl214, sl215, sl216, sl217, sl218, sl219, sl220, sl221, sl222, sl223, sl224, sl225, sl226, sl227, sl228], []⟩ W := by
  conv => arg 2; whnf
  have HS : Hid (objStep O y = if custMem (custOf y) O.custom = true ∨ 6 ≤ O.custom.length then O else { O with custom := O.custom ++ [custOf y] }) := by simp [objStep, hq, Hid]
  clear hq
  go_upto_region 30 with (fail)
  refine wp_region_each 12 [.eq (.agg (strsA custNL)), .eq (.pointer (some ⟨b7, 1, none⟩)), .eq (.int .i64 y.a), .eq (.int .i64 (pick y.a 2)), .eq (.string (custOf y).1), .eq (.agg (strsA custTL)), .eq (.pointer (some ⟨b7, 2, none⟩)), .eq (.int .i64 y.b), .eq (.int .i64 (pick y.b 4)), .eq (.string (custOf y).2), .eq (.agg #[.string (custOf y).1, .string (custOf y).2]), stPair W.heap.size 58] (by kernel_rfl) (by kernel_rfl) (by kernel_rfl) (by kernel_rfl) ?_ ?_
  · as_aux_lemma =>
      refine each_5 ?_ ?_ ?_ ?_ ?_ (each_5 ?_ ?_ ?_ ?_ ?_ (each_c ?_ (each_c ?_ (each_n))))
      · intro w1 hg Ar seen
        refine does_plain rfl fun K Q' hK => ?_
        refine wp_build_obj _ _ rfl #[(0, .string ⟨#[120, 45, 97]⟩), (1, .string ⟨#[120, 45, 98]⟩)] (by simp [Act.eval]) _ (by show Eq _ (Result.ok (Value.agg (strsA custNL)) _); kernel_rfl) ?_
        exact hK _ _ (Grow.refl _) rfl
      · intro w1 hg Ar seen
        have s7 := seen.sl 7 (.pointer (some ⟨b7, 0, none⟩))
        refine does_plain rfl fun K Q' hK => ?_
        go_simp; exact hK _ _ (Grow.refl _) rfl
      · intro w1 hg Ar seen
        have e1 := seen.de 1 166
        refine does_plain rfl fun K Q' hK => ?_
        have hc := cell_of_block (j := 1) ((hg.block _ (block_lt RY.out)).trans RY.out) rfl
        go_simp; exact hK _ _ (Grow.refl _) rfl
      · intro w1 hg Ar seen
        have e2 := seen.de 2 167
        refine does_plain rfl fun K Q' hK => ?_
        go_simp
        refine (pick_any (y.a) 2 _ (by omega) (by omega)).mono ?_
        rintro e u ⟨rfl, rfl⟩
        exact hK _ _ (Grow.refl _) rfl
      · intro w1 hg Ar seen
        have e0 := seen.de 0 165
        have e3 := seen.de 3 168
        refine does_plain rfl fun K Q' hK => ?_
        refine wp_index_row _ _ rfl Tryd.underlying102 sizeStr Tryd.underlying9 rfl (strsA custNL) (by simp [Act.eval, e0]) _ (by simp [Act.eval, e3]) (pickN y.a 2) (pickN_eq _ _ (by omega)) _ (pickN_lt _ 2 (by omega)) (strsA_get custNL _ (pickN_lt _ 2 (by omega))) ?_
        exact hK _ _ (Grow.refl _) rfl
      · intro w1 hg Ar seen
        refine does_plain rfl fun K Q' hK => ?_
        refine wp_build_obj _ _ rfl #[(0, .string ⟨#[111, 110, 101]⟩), (1, .string ⟨#[116, 119, 111]⟩), (2, .string ⟨#[116, 104, 114, 101, 101]⟩), (3, .string ⟨#[102, 111, 117, 114]⟩)] (by simp [Act.eval]) _ (by show Eq _ (Result.ok (Value.agg (strsA custTL)) _); kernel_rfl) ?_
        exact hK _ _ (Grow.refl _) rfl
      · intro w1 hg Ar seen
        have s7 := seen.sl 7 (.pointer (some ⟨b7, 0, none⟩))
        refine does_plain rfl fun K Q' hK => ?_
        go_simp; exact hK _ _ (Grow.refl _) rfl
      · intro w1 hg Ar seen
        have e6 := seen.de 6 171
        refine does_plain rfl fun K Q' hK => ?_
        have hc := cell_of_block (j := 2) ((hg.block _ (block_lt RY.out)).trans RY.out) rfl
        go_simp; exact hK _ _ (Grow.refl _) rfl
      · intro w1 hg Ar seen
        have e7 := seen.de 7 172
        refine does_plain rfl fun K Q' hK => ?_
        go_simp
        refine (pick_any (y.b) 4 _ (by omega) (by omega)).mono ?_
        rintro e u ⟨rfl, rfl⟩
        exact hK _ _ (Grow.refl _) rfl
      · intro w1 hg Ar seen
        have e5 := seen.de 5 170
        have e8 := seen.de 8 173
        refine does_plain rfl fun K Q' hK => ?_
        refine wp_index_row _ _ rfl Tryd.underlying103 sizeStr Tryd.underlying9 rfl (strsA custTL) (by simp [Act.eval, e5]) _ (by simp [Act.eval, e8]) (pickN y.b 4) (pickN_eq _ _ (by omega)) _ (pickN_lt _ 4 (by omega)) (strsA_get custTL _ (pickN_lt _ 4 (by omega))) ?_
        exact hK _ _ (Grow.refl _) rfl
      · intro w1 hg Ar seen
        have e4 := seen.de 4 169
        have e9 := seen.de 9 174
        refine does_plain rfl fun K Q' hK => ?_
        go_simp; exact hK _ _ (Grow.refl _) rfl
      · intro w1 hg Ar seen
        refine does_plain rfl fun K Q' hK => ?_
        go_simp
        exact hK _ _ ((Below.refl _ _).alloc (Nat.le_refl _) _) ⟨_, _, rfl, block_new _ _, rfl, hg.size⟩
  intro w1 hg
  refine upon_w' (js := [0, 1, 2, 3, 4, 5, 6, 7, 8, 9, 10, 11]) (by rfl) ?_
  refine upon_e (some 165) (upon_e (some 166) (upon_e (some 167) (upon_e (some 168) (upon_e (some 169) (upon_e (some 170) (upon_e (some 171) (upon_e (some 172) (upon_e (some 173) (upon_e (some 174) (upon_e (some 175) (upon_v (some 13) fun v11 h11 => upon_n ?_)))))))))))
  go_simp
  obtain ⟨p, C, rfl, hp, hC, hlp⟩ := h11
  obtain ⟨z0, z1, rfl⟩ := pair_cells hC
  go_simp
  have hq0 := cell_of_block (j := 0) hp rfl
  have hq1 := cell_of_block (j := 1) hp rfl
  have hfz : ∀ j, w1.frozen? ⟨p, j, none⟩ = false := fun j => frozen_of_block hp
  have HPB := hid hp; have HLP := hid hlp; have HGG := hid hg
  clear hp hlp hg hC
  go_upto_block 5 with (fail)
  have H2 := hid (HW.out.below ((HGG.out.setCell (p := ⟨p, 0, none⟩) HLP.out (.string (custOf y).1)).setCell (p := ⟨p, 1, none⟩) HLP.out (.string (custOf y).2)))
  have RP := hid (block_setCell (j := 1) (block_setCell (j := 0) HPB.out (.string (custOf y).1)) (.string (custOf y).2))
  clear HPB HLP HGG HW hq0 hq1 hfz RY NE NE7
  generalize (w1.setCell ⟨p, 0, none⟩ (.string (custOf y).1)).setCell ⟨p, 1, none⟩ (.string (custOf y).2) = W2 at *
  have hll : O.custom.length = s.custom.n := by have := H2.out.custom.1; unfold custCells at this; rw [flat_len] at this; omega
  have hs10 : s.custom.n ≤ 10 := by have := HN.out; omega
  have HLL := hid hll; clear hll
  go_cut [14] from 72 to 219 (fun u wx => u = .bool (custMem (custOf y) O.custom) ∧ Below W2.heap.size W2 wx)
  case first =>
    go_wp2_with fail
    go_loopw [14, 15] (fun u v wr => ∃ k : Nat, k ≤ s.custom.n ∧ u = .bool (custMem (custOf y) (O.custom.take k)) ∧ v = .int .i64 k ∧ Below W2.heap.size W2 wr) (fun _ v _ => s.custom.n - (intOf v).toNat)
    case atStart => exact ⟨0, Nat.zero_le _, rfl, rfl, Below.refl _ _⟩
    case round =>
      obtain ⟨k, hk, rfl, rfl, hgr⟩ := hrel
      have HG := hid hgr; clear hgr
      have HQ := hid (H2.out.below HG.out)
      have RQ := hid ((HG.out.block _ (block_lt RP.out)).trans RP.out)
      have ca := HQ.out.cell (oc31 O s)
      by_cases hlt : k < s.custom.n
      · obtain ⟨ba, oa, z, ha, hz, hc1, hc2⟩ := (SlR.of_own HQ.out.custom (by omega)).pair hlt
        have HE : Hid (custMem (custOf y) (O.custom.take (k + 1)) = (custMem (custOf y) (O.custom.take k) || (strEq (z).1 (custOf y).1 && strEq (z).2 (custOf y).2))) := by
          show _ = _
          unfold custMem
          rw [List.take_add_one, hz]
          simp [List.any_append]
        rw [ha] at ca
        have CA := hid ca; have C1 := hid hc1; have C2 := hid hc2
        clear ca ha hz hc1 hc2
        have ca' := CA.out
        go_upto_region 35 with (fail)
        clear ca'
        cases hm : custMem (custOf y) (O.custom.take k) with
        | true =>
          rw [hm] at HE
          refine wp_region_each 10 [.eq (.bool true), .eq (.bool true), .eq undef, .eq undef, .eq undef, .eq undef, .eq undef, .eq undef, .eq undef, .eq (.bool true)] (by kernel_rfl) (by kernel_rfl) (by kernel_rfl) (by kernel_rfl) ?_ ?_
          · as_aux_lemma =>
              refine each_5 ?_ ?_ ?_ ?_ ?_ (each_5 ?_ ?_ ?_ ?_ ?_ (each_n))
              · intro w1 hg Ar seen
                have s14 := seen.sl 14 (.bool true)
                refine does_plain rfl fun K Q' hK => ?_
                go_simp; exact hK _ _ (Grow.refl _) rfl
              · intro w1 hg Ar seen
                have e0 := seen.de 0 183
                refine does_plain rfl fun K Q' hK => ?_
                go_simp; exact hK _ _ (Grow.refl _) rfl
              · intro w1 hg Ar seen
                have e1 := seen.de 1 184
                exact does_off rfl (by kernel_rfl) e1 ne_tf (Grow.refl _) rfl
              · intro w1 hg Ar seen
                have e1 := seen.de 1 184
                exact does_off rfl (by kernel_rfl) e1 ne_tf (Grow.refl _) rfl
              · intro w1 hg Ar seen
                have e1 := seen.de 1 184
                exact does_off rfl (by kernel_rfl) e1 ne_tf (Grow.refl _) rfl
              · intro w1 hg Ar seen
                have e1 := seen.de 1 184
                exact does_off rfl (by kernel_rfl) e1 ne_tf (Grow.refl _) rfl
              · intro w1 hg Ar seen
                have e1 := seen.de 1 184
                exact does_off rfl (by kernel_rfl) e1 ne_tf (Grow.refl _) rfl
              · intro w1 hg Ar seen
                have e1 := seen.de 1 184
                exact does_off rfl (by kernel_rfl) e1 ne_tf (Grow.refl _) rfl
              · intro w1 hg Ar seen
                have e1 := seen.de 1 184
                exact does_off rfl (by kernel_rfl) e1 ne_tf (Grow.refl _) rfl
              · intro w1 hg Ar seen
                have e1 := seen.de 1 184
                have e8 := seen.de 8 191
                refine does_plain rfl fun K Q' hK => ?_
                go_simp; exact hK _ _ (Grow.refl _) rfl
          intro w1 hg
          refine upon_w' (js := [0, 1, 2, 3, 4, 5, 6, 7, 8, 9]) (by rfl) ?_
          refine upon_e (some 183) (upon_e (some 184) (upon_e (some 185) (upon_e (some 186) (upon_e (some 187) (upon_e (some 188) (upon_e (some 189) (upon_e (some 190) (upon_e (some 191) (upon_e (some 192) (upon_n ?_))))))))))
          go_wp2_with fail
          go_roundw
          case rel =>
            have h1 : Value.bool true = .bool (custMem (custOf y) (O.custom.take (k + 1))) := by rw [HE.out]; rfl
            first | exact ⟨k + 1, by omega, h1, by go_num, HG.out.trans (Below.mono hg HG.out.size)⟩ | ((repeat apply Exists.intro); exact ⟨⟨k + 1, by omega, h1, by go_num, HG.out.trans (Below.mono hg HG.out.size)⟩, rfl⟩)
          case measure => simp [intOf]; omega
        | false =>
          rw [hm] at HE
          refine wp_region_each 10 [.eq (.bool false), .eq (.bool false), .eq (.pointer (some ⟨b5, 31, none⟩)), .eq (.slice (some ⟨ba, oa, none⟩) s.custom.n s.custom.c), .eq (.int .i64 (k : Int)), .eq (.pointer (some ⟨ba, oa + k * 2, none⟩)), .eq (.agg #[.string (z).1, .string (z).2]), .eq (.agg #[.string (custOf y).1, .string (custOf y).2]), .eq (.bool (strEq (z).1 (custOf y).1 && strEq (z).2 (custOf y).2)), .eq (.bool (strEq (z).1 (custOf y).1 && strEq (z).2 (custOf y).2))] (by kernel_rfl) (by kernel_rfl) (by kernel_rfl) (by kernel_rfl) ?_ ?_
          · as_aux_lemma =>
              refine each_5 ?_ ?_ ?_ ?_ ?_ (each_5 ?_ ?_ ?_ ?_ ?_ (each_n))
              · intro w1 hg Ar seen
                have s14 := seen.sl 14 (.bool false)
                refine does_plain rfl fun K Q' hK => ?_
                go_simp; exact hK _ _ (Grow.refl _) rfl
              · intro w1 hg Ar seen
                have e0 := seen.de 0 183
                refine does_plain rfl fun K Q' hK => ?_
                go_simp; exact hK _ _ (Grow.refl _) rfl
              · intro w1 hg Ar seen
                have e1 := seen.de 1 184
                have s5 := seen.sl 5 (.pointer (some ⟨b5, 0, none⟩))
                refine does_on rfl (by kernel_rfl) e1 fun K Q' hK => ?_
                clear e1
                go_simp; exact hK _ _ (Grow.refl _) rfl
              · intro w1 hg Ar seen
                have e2 := seen.de 2 185
                have e1 := seen.de 1 184
                refine does_on rfl (by kernel_rfl) e1 fun K Q' hK => ?_
                clear e1
                have hc := cell_later hg CA.out
                go_simp; exact hK _ _ (Grow.refl _) rfl
              · intro w1 hg Ar seen
                have e1 := seen.de 1 184
                have s15 := seen.sl 15 (.int .i64 (k : Int))
                refine does_on rfl (by kernel_rfl) e1 fun K Q' hK => ?_
                clear e1
                go_simp; exact hK _ _ (Grow.refl _) rfl
              · intro w1 hg Ar seen
                have e3 := seen.de 3 186
                have e4 := seen.de 4 187
                have e1 := seen.de 1 184
                refine does_on rfl (by kernel_rfl) e1 fun K Q' hK => ?_
                clear e1
                go_simp; exact hK _ _ (Grow.refl _) rfl
              · intro w1 hg Ar seen
                have e5 := seen.de 5 188
                have e1 := seen.de 1 184
                refine does_on rfl (by kernel_rfl) e1 fun K Q' hK => ?_
                clear e1
                have hc := cell_later hg C1.out; have hc2 := cell_later hg C2.out
                go_simp; exact hK _ _ (Grow.refl _) rfl
              · intro w1 hg Ar seen
                have e1 := seen.de 1 184
                have s13 := seen.sl 13 (.pointer (some ⟨p, 0, none⟩))
                refine does_on rfl (by kernel_rfl) e1 fun K Q' hK => ?_
                clear e1
                have hc := cell_of_block (j := 0) ((hg.block _ (block_lt RQ.out)).trans RQ.out) rfl; have hc2 := cell_of_block (j := 1) ((hg.block _ (block_lt RQ.out)).trans RQ.out) rfl
                go_simp; exact hK _ _ (Grow.refl _) rfl
              · intro w1 hg Ar seen
                have e6 := seen.de 6 189
                have e7 := seen.de 7 190
                have e1 := seen.de 1 184
                refine does_on rfl (by kernel_rfl) e1 fun K Q' hK => ?_
                clear e1
                have he := fun w => eqCustB 9998 z (custOf y) w
                go_simp; exact hK _ _ (Grow.refl _) rfl
              · intro w1 hg Ar seen
                have e1 := seen.de 1 184
                have e8 := seen.de 8 191
                refine does_plain rfl fun K Q' hK => ?_
                go_simp; exact hK _ _ (Grow.refl _) rfl
          intro w1 hg
          refine upon_w' (js := [0, 1, 2, 3, 4, 5, 6, 7, 8, 9]) (by rfl) ?_
          refine upon_e (some 183) (upon_e (some 184) (upon_e (some 185) (upon_e (some 186) (upon_e (some 187) (upon_e (some 188) (upon_e (some 189) (upon_e (some 190) (upon_e (some 191) (upon_e (some 192) (upon_n ?_))))))))))
          go_wp2_with fail
          go_roundw
          case rel =>
            have h1 : Value.bool (strEq (z).1 (custOf y).1 && strEq (z).2 (custOf y).2) = .bool (custMem (custOf y) (O.custom.take (k + 1))) := by rw [HE.out]; rfl
            first | exact ⟨k + 1, by omega, h1, by go_num, HG.out.trans (Below.mono hg HG.out.size)⟩ | ((repeat apply Exists.intro); exact ⟨⟨k + 1, by omega, h1, by go_num, HG.out.trans (Below.mono hg HG.out.size)⟩, rfl⟩)
          case measure => simp [intOf]; omega
      · obtain rfl : k = s.custom.n := by omega
        go_wp2_with fail
        go_meet
        exact ⟨by rw [List.take_of_length_le (by rw [HLL.out]; exact Nat.le_refl _)], HG.out⟩
  case rest =>
    obtain ⟨rfl, hbx⟩ := hcut
    have H3 := hid (H2.out.below hbx)
    have RP3 := hid ((hbx.block _ (block_lt RP.out)).trans RP.out)
    clear H2 RP hbx
    cases hm : custMem (custOf y) O.custom with
    | true =>
      have HC := True.intro
      have HS2 : Hid (objStep O y = O) := by have := HS.out; simpa [Hid, hm, HC] using this
      have c30 := H3.out.cell (oc31 O s)
      go_wp2_with fail
      go_meet
      rw [HS2.out]
      exact ⟨s, H3.out⟩
    | false =>
      by_cases HC0 : s.custom.n < 6
      · have HC : ¬ (6 ≤ O.custom.length) := by rw [HLL.out]; omega
        have HS2 : Hid (objStep O y = { O with custom := O.custom ++ [custOf y] }) := by have := HS.out; simpa [Hid, hm, HC] using this
        obtain ⟨i, hi, hz0, hz1, hz2⟩ := info_parts oInfoC
        have c30 := H3.out.cell (oc31 O s)
        have p0 := cell_of_block (j := 0) RP3.out rfl
        have p1 := cell_of_block (j := 1) RP3.out rfl
        go_wp2_with (at_builtin
                     go_must (refine wpList_append_c rfl _ _ 31 rfl (b5 + 1) 58 i _ 2 32 Tryd.underlying31 hi hz0 hz1 hz2 rfl (by decide) s.custom.v s.custom.n _ rfl (((Chg.refl [] _).alloc _).owns H3.out.custom (fun k _ hm => by cases hm)) _ 1 _ [.string (custOf y).1, .string (custOf y).2] rfl (RdC.new _ _ _ _ [.string (custOf y).1, .string (custOf y).2] rfl 2 rfl _ (by simp)) (cust_one [custOf y]) (fun hx => by cases hx) (by unfold maxLen; omega) (by omega) (by have := H3.out.size; simp; omega) ?_)
                     intro a' c' w3 hown hgw hfr
                     have HO3 := hid hown; have HG4 := hid hgw; clear hown hgw hfr
                     have h3 := H3.out.grown5 H3.out.custom HG4.out
                     have hc30 := cell_of_block h3 (oc31 O s)
                     have hfz : ∀ j, w3.frozen? ⟨b5, j, none⟩ = false := fun j => frozen_of_block h3
                     clear h3)
        go_meet
        rw [HS2.out]
        exact ⟨_, H3.out.app_custom (custOf y) _ a' _ c' HG4.out (by unfold custCells; rw [List.flatMap_append]; exact HO3.out)⟩
      · have HC : 6 ≤ O.custom.length := by rw [HLL.out]; omega
        have HS2 : Hid (objStep O y = O) := by have := HS.out; simpa [Hid, hm, HC] using this
        have c30 := H3.out.cell (oc31 O s)
        go_wp2_with fail
        go_meet
        rw [HS2.out]
        exact ⟨s, H3.out⟩
end
section
open Go.RowKit
set_option linter.unusedVariables false
set_option linter.unusedSimpArgs false
set_option maxRecDepth 1000000
set_option maxHeartbeats 16000000
theorem obj_sw7 {w W : World} {x y : RawD} {b0 b5 b7 : Nat} {O : ObjD} {s : ObjV} (sl0 sl1 sl2 sl3 sl4 sl6 sl8 sl9 sl10 sl11 sl12 sl13 sl14 sl15 sl16 sl17 sl18 sl19 sl20 sl21 sl22 sl23 sl24 sl25 sl26 sl27 sl28 sl29 sl30 sl31 sl32 sl33 sl34 sl35 sl36 sl37 sl38 sl39 sl40 sl41 sl42 sl43 sl44 sl45 sl46 sl47 sl48 sl49 sl50 sl51 sl52 sl53 sl54 sl55 sl56 sl57 sl58 sl59 sl60 sl61 sl62 sl63 sl64 sl65 sl66 sl67 sl68 sl69 sl70 sl72 sl73 sl74 sl75 sl76 sl77 sl78 sl79 sl80 sl81 sl82 sl83 sl84 sl85 sl86 sl87 sl88 sl89 sl90 sl91 sl92 sl93 sl94 sl95 sl96 sl97 sl98 sl99 sl100 sl101 sl102 sl103 sl104 sl105 sl106 sl107 sl108 sl109 sl110 sl111 sl112 sl113 sl114 sl115 sl116 sl117 sl118 sl119 sl120 sl121 sl122 sl123 sl124 sl125 sl126 sl127 sl128 sl129 sl130 sl131 sl132 sl133 sl134 sl135 sl136 sl137 sl138 sl139 sl140 sl141 sl142 sl143 sl144 sl145 sl146 sl147 sl148 sl149 sl150 sl151 sl152 sl153 sl154 sl155 sl156 sl157 sl158 sl159 sl160 sl161 sl162 sl163 sl164 sl165 sl166 sl167 sl168 sl169 sl170 sl171 sl172 sl173 sl174 sl175 sl176 sl177 sl178 sl179 sl180 sl181 sl182 sl183 sl184 sl185 sl186 sl187 sl188 sl189 sl190 sl191 sl192 sl193 sl194 sl195 sl196 sl197 sl198 sl199 sl200 sl201 sl202 sl203 sl204 sl205 sl206 sl207 sl208 sl209 sl210 sl211 sl212 sl213 sl214 sl215 sl216 sl217 sl218 sl219 sl220 sl221 sl222 sl223 sl224 sl225 sl226 sl227 sl228 : Value) (J K' : Act → World → Prop) (Q' : Exit → Act → World → Prop)
    (HW : Hid (HObj w W x b0 b5 O s)) (RY : Hid (W.heap[b7]? = some (.cells #[.int .i64 y.kind, .int .i64 y.a, .int .i64 y.b, .int .i64 y.c] 41 (0, 0)))) (NE7 : Hid (b7 ≠ b5)) (NE : Hid (b5 < b7)) (HOK : Hid y.ok)
    (HN : Hid (O.names.length ≤ 10 ∧ O.links.length ≤ 10 ∧ O.custom.length ≤ 10))
    (hq : pickN y.kind 9 = 7)
    (h1 : ∀ a' w', (∃ u8 u9 u10 u11 u12 u13 u14 u15 u55 u56 u57 u58 u59 u60 u61 u62 u63 u64 u65 u66 u67 u68 u69 u70 u72 u73 u74 u75 u76 u77 u78 u79 u80 u81 u82 u83 u84 u85 u86 u87 u88 u89 u90 u91 u92 u93 u94 u95 u96 u97 u98 u99 u100 u101 u102 u103 u104 u105 u106 u107 u108 u109 u110 u111 u112 u113 u114 u115 u116 u117 u118 u119 u120 u121 u122 u123 u124 u125 u126 u127 u128 u129 u130 u131 u132 u133 u134 u135 u136 u137 u138 u139 u140 u141 u142 u143 u144 u145 u146 u147 u148 u149 u150 u151 u152 u153 u154 u155 u156 u157 u158 u159 u160 u161 u162 u163 u164 u165 u166 u167 u168 u169 u170 u171 u172 u173 u174 u175 u176 u177 u178 u179 u180 u181 u182 u183 u184 u185 u186 u187 u188 u189 u190 u191 u192 u193 u194 u195 u196 u197 u198 u199 u200 u201 u202 u203 u204 u205 u206 u207 u208 u209 u210 u211 u212 u213 u214 u215 u216 u217 u218 u219 : Value, (∃ s', HObj w w' x b0 b5 (objStep O y) s') ∧ a' = ⟨#[sl0, sl1, sl2, sl3, sl4, .pointer (some ⟨b5, 0, none⟩), sl6, .pointer (some ⟨b7, 0, none⟩), u8, u9, u10, u11, u12, u13, u14, u15, sl16, sl17, sl18, sl19, sl20, sl21, sl22, sl23, sl24, sl25, sl26, sl27, sl28, sl29, sl30, sl31, sl32, sl33, sl34, sl35, sl36, sl37, sl38, sl39, sl40, sl41, sl42, sl43, sl44, sl45, sl46, sl47, sl48, sl49, sl50, sl51, sl52, sl53, sl54, u55, u56, u57, u58, u59, u60, u61, u62, u63, u64, u65, u66, u67, u68, u69, u70, .int .i64 7, u72, u73, u74, u75, u76, u77, u78, u79, u80, u81, u82, u83, u84, u85, u86, u87, u88, u89, u90, u91, u92, u93, u94, u95, u96, u97, u98, u99, u100, u101, u102, u103, u104, u105, u106, u107, u108, u109, u110, u111, u112, u113, u114, u115, u116, u117, u118, u119, u120, u121, u122, u123, u124, u125, u126, u127, u128, u129, u130, u131, u132, u133, u134, u135, u136, u137, u138, u139, u140, u141, u142, u143, u144, u145, u146, u147, u148, u149, u150, u151, u152, u153, u154, u155, u156, u157, u158, u159, u160, u161, u162, u163, u164, u165, u166, u167, u168, u169, u170, u171, u172, u173, u174, u175, u176, u177, u178, u179, u180, u181, u182, u183, u184, u185, u186, u187, u188, u189, u190, u191, u192, u193, u194, u195, u196, u197, u198, u199, u200, u201, u202, u203, u204, u205, u206, u207, u208, u209, u210, u211, u212, u213, u214, u215, u216, u217, u218, u219, sl220, sl221, sl222, sl223, sl224, sl225, sl226, sl227, sl228], []⟩) → J a' w') (h2 : ∀ a' w', Met J a' w' → K' a' w') :
    Code.wp Tryd.prog objSw (Exit.then K' Q') ⟨#[sl0, sl1, sl2, sl3, sl4, .pointer (some ⟨b5, 0, none⟩), sl6, .pointer (some ⟨b7, 0, none⟩), sl8, sl9, sl10, sl11, sl12, sl13, sl14, sl15, sl16, sl17, sl18, sl19, sl20, sl21, sl22, sl23, sl24, sl25, sl26, sl27, sl28, sl29, sl30, sl31, sl32, sl33, sl34, sl35, sl36, sl37, sl38, sl39, sl40, sl41, sl42, sl43, sl44, sl45, sl46, sl47, sl48, sl49, sl50, sl51, sl52, sl53, sl54, sl55, sl56, sl57, sl58, sl59, sl60, sl61, sl62, sl63, sl64, sl65, sl66, sl67, sl68, sl69, sl70, .int .i64 7, sl72, sl73, sl74, sl75, sl76, sl77, sl78, sl79, sl80, sl81, sl82, sl83, sl84, sl85, sl86, sl87, sl88, sl89, sl90, sl91, sl92, sl93, sl94, sl95, sl96, sl97, sl98, sl99, sl100, sl101, sl102, sl103, sl104, sl105, sl106, sl107, sl108, sl109, sl110, sl111, sl112, sl113, sl114, sl115, sl116, sl117, sl118, sl119, sl120, sl121, sl122, sl123, sl124, sl125, sl126, sl127, sl128, sl129, sl130, sl131, sl132, sl133, sl134, sl135, sl136, sl137, sl138, sl139, sl140, sl141, sl142, sl143, sl144, sl145, sl146, sl147, sl148, sl149, sl150, sl151, sl152, sl153, sl154, sl155, sl156, sl157, sl158, sl159, sl160, sl161, sl162, sl163, sl164, sl165, sl166, sl167, sl168, sl169, sl170, sl171, sl172, sl173, sl174, sl175, sl176, sl177, sl178, sl179, sl180, sl181, sl182, sl183, sl184, sl185, sl186, sl187, sl188, sl189, sl190, sl191, sl192, sl193, sl194, sl195, sl196, sl197, sl198, sl199, sl200, sl201, sl202, sl203, sl204, sl205, sl206, sl207, sl208, sl209, sl210, sl211, sl212, sl213, sl214, sl215, sl216, sl217, sl218, sl219, sl220, sl221, sl222, sl223, sl224, sl225, sl226, sl227, sl228], []⟩ W := by
  conv => arg 2; whnf
  have HS : Hid (objStep O y = { O with reason := 1 + pick y.a 7, msg := msgL.getD (pickN y.b 3) ⟨#[]⟩ }) := by simp only [objStep, hq]; rfl
  clear hq
  have y1 := cell_of_block (j := 1) RY.out rfl
  have c27 := HW.out.cell (oc27 O s)
  have hfz := HW.out.fz
  have hlo := pick_lo y.a 7 (by omega)
  have hhi := pick_hi y.a 7 (by omega)
  go_upto_region 40 with (go_at_call 21; refine (pick_any y.a 7 _ (by omega) (by omega)).mono ?_; rintro e u ⟨rfl, rfl⟩)
  have H2 := hid (HW.out.set 27 (.int .i64 (1 + pick y.a 7)) (os27 O s _) rfl rfl rfl rfl HW.out.dl)
  have RY2 := hid ((block_setCell_other (w := W) (p := b5) (j := 27) (q := b7) (NE7.out) (.int .i64 (1 + pick y.a 7))).trans RY.out)
  clear y1 c27 hfz hlo hhi
  generalize W.setCell ⟨b5, 27, none⟩ (.int .i64 (1 + pick y.a 7)) = W2 at *
  have y2 := cell_of_block (j := 2) RY2.out rfl
  have c28 := H2.out.cell (oc28 _ s)
  have hfz := H2.out.fz
  have hpe : pick y.b 3 = (pickN y.b 3 : Int) := pickN_eq y.b 3 (by omega)
  have HP := hid hpe; clear hpe
  have HL3 := hid (pickN_lt y.b 3 (by omega))
  have hbu : ∀ w, (Instr.build 104 #[(0, .string ⟨#[]⟩), (1, .string ⟨#[109]⟩), (2, .string ⟨#[108, 111, 115, 116]⟩)]).run Tryd.prog w = .ok (.agg (strsA msgL)) w := fun w => by kernel_rfl
  have HBU := hid hbu; clear hbu
  have HG3 := hid (strsA_get msgL (pickN y.b 3) (by have := HL3.out; simpa [msgL] using this))
  generalize strsA msgL = SA at *
  refine wp_region_lit ?_
  refine wpList_build_obj rfl 104 _ rfl #[(0, .string ⟨#[]⟩), (1, .string ⟨#[109]⟩), (2, .string ⟨#[108, 111, 115, 116]⟩)] (by simp [Act.eval]) _ (HBU.out _) ?_
  go_simp
  go_wp2_with fail
  refine (pick_any y.b 3 _ (by omega) (by omega)).mono ?_
  rintro e u ⟨rfl, rfl⟩
  rw [HP.out]
  go_wp2_with (refine wpList_index_row rfl _ _ rfl Tryd.underlying104 sizeStr Tryd.underlying9 rfl SA rfl _ rfl (pickN y.b 3) rfl _ HL3.out HG3.out ?_)
  go_meet
  rw [HS.out]
  exact ⟨s, H2.out.set 28 _ (os28 _ s _) rfl rfl rfl rfl H2.out.dl⟩
end
section
open Go.RowKit
set_option linter.unusedVariables false
set_option linter.unusedSimpArgs false
set_option maxRecDepth 1000000
set_option maxHeartbeats 16000000
theorem obj_sw8 {w W : World} {x y : RawD} {b0 b5 b7 : Nat} {O : ObjD} {s : ObjV} (sl0 sl1 sl2 sl3 sl4 sl6 sl8 sl9 sl10 sl11 sl12 sl13 sl14 sl15 sl16 sl17 sl18 sl19 sl20 sl21 sl22 sl23 sl24 sl25 sl26 sl27 sl28 sl29 sl30 sl31 sl32 sl33 sl34 sl35 sl36 sl37 sl38 sl39 sl40 sl41 sl42 sl43 sl44 sl45 sl46 sl47 sl48 sl49 sl50 sl51 sl52 sl53 sl54 sl55 sl56 sl57 sl58 sl59 sl60 sl61 sl62 sl63 sl64 sl65 sl66 sl67 sl68 sl69 sl70 sl72 sl73 sl74 sl75 sl76 sl77 sl78 sl79 sl80 sl81 sl82 sl83 sl84 sl85 sl86 sl87 sl88 sl89 sl90 sl91 sl92 sl93 sl94 sl95 sl96 sl97 sl98 sl99 sl100 sl101 sl102 sl103 sl104 sl105 sl106 sl107 sl108 sl109 sl110 sl111 sl112 sl113 sl114 sl115 sl116 sl117 sl118 sl119 sl120 sl121 sl122 sl123 sl124 sl125 sl126 sl127 sl128 sl129 sl130 sl131 sl132 sl133 sl134 sl135 sl136 sl137 sl138 sl139 sl140 sl141 sl142 sl143 sl144 sl145 sl146 sl147 sl148 sl149 sl150 sl151 sl152 sl153 sl154 sl155 sl156 sl157 sl158 sl159 sl160 sl161 sl162 sl163 sl164 sl165 sl166 sl167 sl168 sl169 sl170 sl171 sl172 sl173 sl174 sl175 sl176 sl177 sl178 sl179 sl180 sl181 sl182 sl183 sl184 sl185 sl186 sl187 sl188 sl189 sl190 sl191 sl192 sl193 sl194 sl195 sl196 sl197 sl198 sl199 sl200 sl201 sl202 sl203 sl204 sl205 sl206 sl207 sl208 sl209 sl210 sl211 sl212 sl213 sl214 sl215 sl216 sl217 sl218 sl219 sl220 sl221 sl222 sl223 sl224 sl225 sl226 sl227 sl228 : Value) (J K' : Act → World → Prop) (Q' : Exit → Act → World → Prop)
    (HW : Hid (HObj w W x b0 b5 O s)) (RY : Hid (W.heap[b7]? = some (.cells #[.int .i64 y.kind, .int .i64 y.a, .int .i64 y.b, .int .i64 y.c] 41 (0, 0)))) (NE7 : Hid (b7 ≠ b5)) (NE : Hid (b5 < b7)) (HOK : Hid y.ok)
    (HN : Hid (O.names.length ≤ 10 ∧ O.links.length ≤ 10 ∧ O.custom.length ≤ 10))
    (hq : pickN y.kind 9 = 8)
    (h1 : ∀ a' w', (∃ u8 u9 u10 u11 u12 u13 u14 u15 u55 u56 u57 u58 u59 u60 u61 u62 u63 u64 u65 u66 u67 u68 u69 u70 u72 u73 u74 u75 u76 u77 u78 u79 u80 u81 u82 u83 u84 u85 u86 u87 u88 u89 u90 u91 u92 u93 u94 u95 u96 u97 u98 u99 u100 u101 u102 u103 u104 u105 u106 u107 u108 u109 u110 u111 u112 u113 u114 u115 u116 u117 u118 u119 u120 u121 u122 u123 u124 u125 u126 u127 u128 u129 u130 u131 u132 u133 u134 u135 u136 u137 u138 u139 u140 u141 u142 u143 u144 u145 u146 u147 u148 u149 u150 u151 u152 u153 u154 u155 u156 u157 u158 u159 u160 u161 u162 u163 u164 u165 u166 u167 u168 u169 u170 u171 u172 u173 u174 u175 u176 u177 u178 u179 u180 u181 u182 u183 u184 u185 u186 u187 u188 u189 u190 u191 u192 u193 u194 u195 u196 u197 u198 u199 u200 u201 u202 u203 u204 u205 u206 u207 u208 u209 u210 u211 u212 u213 u214 u215 u216 u217 u218 u219 : Value, (∃ s', HObj w w' x b0 b5 (objStep O y) s') ∧ a' = ⟨#[sl0, sl1, sl2, sl3, sl4, .pointer (some ⟨b5, 0, none⟩), sl6, .pointer (some ⟨b7, 0, none⟩), u8, u9, u10, u11, u12, u13, u14, u15, sl16, sl17, sl18, sl19, sl20, sl21, sl22, sl23, sl24, sl25, sl26, sl27, sl28, sl29, sl30, sl31, sl32, sl33, sl34, sl35, sl36, sl37, sl38, sl39, sl40, sl41, sl42, sl43, sl44, sl45, sl46, sl47, sl48, sl49, sl50, sl51, sl52, sl53, sl54, u55, u56, u57, u58, u59, u60, u61, u62, u63, u64, u65, u66, u67, u68, u69, u70, .int .i64 8, u72, u73, u74, u75, u76, u77, u78, u79, u80, u81, u82, u83, u84, u85, u86, u87, u88, u89, u90, u91, u92, u93, u94, u95, u96, u97, u98, u99, u100, u101, u102, u103, u104, u105, u106, u107, u108, u109, u110, u111, u112, u113, u114, u115, u116, u117, u118, u119, u120, u121, u122, u123, u124, u125, u126, u127, u128, u129, u130, u131, u132, u133, u134, u135, u136, u137, u138, u139, u140, u141, u142, u143, u144, u145, u146, u147, u148, u149, u150, u151, u152, u153, u154, u155, u156, u157, u158, u159, u160, u161, u162, u163, u164, u165, u166, u167, u168, u169, u170, u171, u172, u173, u174, u175, u176, u177, u178, u179, u180, u181, u182, u183, u184, u185, u186, u187, u188, u189, u190, u191, u192, u193, u194, u195, u196, u197, u198, u199, u200, u201, u202, u203, u204, u205, u206, u207, u208, u209, u210, u211, u212, u213, u214, u215, u216, u217, u218, u219, sl220, sl221, sl222, sl223, sl224, sl225, sl226, sl227, sl228], []⟩) → J a' w') (h2 : ∀ a' w', Met J a' w' → K' a' w') :
    Code.wp Tryd.prog objSw (Exit.then K' Q') ⟨#[sl0, sl1, sl2, sl3, sl4, .pointer (some ⟨b5, 0, none⟩), sl6, .pointer (some ⟨b7, 0, none⟩), sl8, sl9, sl10, sl11, sl12, sl13, sl14, sl15, sl16, sl17, sl18, sl19, sl20, sl21, sl22, sl23, sl24, sl25, sl26, sl27, sl28, sl29, sl30, sl31, sl32, sl33, sl34, sl35, sl36, sl37, sl38, sl39, sl40, sl41, sl42, sl43, sl44, sl45, sl46, sl47, sl48, sl49, sl50, sl51, sl52, sl53, sl54, sl55, sl56, sl57, sl58, sl59, sl60, sl61, sl62, sl63, sl64, sl65, sl66, sl67, sl68, sl69, sl70, .int .i64 8, sl72, sl73, sl74, sl75, sl76, sl77, sl78, sl79, sl80, sl81, sl82, sl83, sl84, sl85, sl86, sl87, sl88, sl89, sl90, sl91, sl92, sl93, sl94, sl95, sl96, sl97, sl98, sl99, sl100, sl101, sl102, sl103, sl104, sl105, sl106, sl107, sl108, sl109, sl110, sl111, sl112, sl113, sl114, sl115, sl116, sl117, sl118, sl119, sl120, sl121, sl122, sl123, sl124, sl125, sl126, sl127, sl128, sl129, sl130, sl131, sl132, sl133, sl134, sl135, sl136, sl137, sl138, sl139, sl140, sl141, sl142, sl143, sl144, sl145, sl146, sl147, sl148, sl149, sl150, sl151, sl152, sl153, sl154, sl155, sl156, sl157, sl158, sl159, sl160, sl161, sl162, sl163, sl164, sl165, sl166, sl167, sl168, sl169, sl170, sl171, sl172, sl173, sl174, sl175, sl176, sl177, sl178, sl179, sl180, sl181, sl182, sl183, sl184, sl185, sl186, sl187, sl188, sl189, sl190, sl191, sl192, sl193, sl194, sl195, sl196, sl197, sl198, sl199, sl200, sl201, sl202, sl203, sl204, sl205, sl206, sl207, sl208, sl209, sl210, sl211, sl212, sl213, sl214, sl215, sl216, sl217, sl218, sl219, sl220, sl221, sl222, sl223, sl224, sl225, sl226, sl227, sl228], []⟩ W := by
  conv => arg 2; whnf
  have HS : Hid (objStep O y = { O with arch := decide (y.a.tmod 3 = 0) }) := by simp [objStep, hq, Hid]
  clear hq
  have y1 := cell_of_block (j := 1) RY.out rfl
  have c36 := HW.out.cell (oc36 O s)
  have hfz := HW.out.fz
  have hm1 := Int.tmod_lt_of_pos y.a (show (0 : Int) < 3 by decide)
  have hm2 : -3 < y.a.tmod 3 := by have := (pick_of y.a 3 (by omega)).2.2.1; exact this
  have hs : IntKind.i64.wrap (y.a.tmod 3) = y.a.tmod 3 := IntWalk.i64_in _ (by omega)
  clear hm1 hm2
  cases hr : (y.a.tmod 3 == 0) with
  | true =>
    have hd : decide (y.a.tmod 3 = 0) = true := by simpa using hr
    rw [hd] at HS; clear hd
    go_wp2_with fail
    go_meet
    rw [HS.out]
    exact ⟨s, HW.out.set 36 (.bool true) (os36 O s true) rfl rfl rfl rfl HW.out.dl⟩
  | false =>
    have hd : decide (y.a.tmod 3 = 0) = false := by simpa using hr
    rw [hd] at HS; clear hd
    go_wp2_with fail
    go_meet
    rw [HS.out]
    exact ⟨s, HW.out.set 36 (.bool false) (os36 O s false) rfl rfl rfl rfl HW.out.dl⟩
end
section
open Go.RowKit
set_option linter.unusedVariables false
set_option linter.unusedSimpArgs false
set_option maxRecDepth 1000000
set_option maxHeartbeats 16000000
theorem obj_sw {w W : World} {x y : RawD} {b0 b5 b7 : Nat} {O : ObjD} {s : ObjV} (sl0 sl1 sl2 sl3 sl4 sl6 sl8 sl9 sl10 sl11 sl12 sl13 sl14 sl15 sl16 sl17 sl18 sl19 sl20 sl21 sl22 sl23 sl24 sl25 sl26 sl27 sl28 sl29 sl30 sl31 sl32 sl33 sl34 sl35 sl36 sl37 sl38 sl39 sl40 sl41 sl42 sl43 sl44 sl45 sl46 sl47 sl48 sl49 sl50 sl51 sl52 sl53 sl54 sl55 sl56 sl57 sl58 sl59 sl60 sl61 sl62 sl63 sl64 sl65 sl66 sl67 sl68 sl69 sl70 sl72 sl73 sl74 sl75 sl76 sl77 sl78 sl79 sl80 sl81 sl82 sl83 sl84 sl85 sl86 sl87 sl88 sl89 sl90 sl91 sl92 sl93 sl94 sl95 sl96 sl97 sl98 sl99 sl100 sl101 sl102 sl103 sl104 sl105 sl106 sl107 sl108 sl109 sl110 sl111 sl112 sl113 sl114 sl115 sl116 sl117 sl118 sl119 sl120 sl121 sl122 sl123 sl124 sl125 sl126 sl127 sl128 sl129 sl130 sl131 sl132 sl133 sl134 sl135 sl136 sl137 sl138 sl139 sl140 sl141 sl142 sl143 sl144 sl145 sl146 sl147 sl148 sl149 sl150 sl151 sl152 sl153 sl154 sl155 sl156 sl157 sl158 sl159 sl160 sl161 sl162 sl163 sl164 sl165 sl166 sl167 sl168 sl169 sl170 sl171 sl172 sl173 sl174 sl175 sl176 sl177 sl178 sl179 sl180 sl181 sl182 sl183 sl184 sl185 sl186 sl187 sl188 sl189 sl190 sl191 sl192 sl193 sl194 sl195 sl196 sl197 sl198 sl199 sl200 sl201 sl202 sl203 sl204 sl205 sl206 sl207 sl208 sl209 sl210 sl211 sl212 sl213 sl214 sl215 sl216 sl217 sl218 sl219 sl220 sl221 sl222 sl223 sl224 sl225 sl226 sl227 sl228 : Value) (J K' : Act → World → Prop) (Q' : Exit → Act → World → Prop)
    (HW : Hid (HObj w W x b0 b5 O s)) (RY : Hid (W.heap[b7]? = some (.cells #[.int .i64 y.kind, .int .i64 y.a, .int .i64 y.b, .int .i64 y.c] 41 (0, 0)))) (NE7 : Hid (b7 ≠ b5)) (NE : Hid (b5 < b7)) (HOK : Hid y.ok)
    (HN : Hid (O.names.length ≤ 10 ∧ O.links.length ≤ 10 ∧ O.custom.length ≤ 10))
    (h1 : ∀ a' w', (∃ u8 u9 u10 u11 u12 u13 u14 u15 u55 u56 u57 u58 u59 u60 u61 u62 u63 u64 u65 u66 u67 u68 u69 u70 u72 u73 u74 u75 u76 u77 u78 u79 u80 u81 u82 u83 u84 u85 u86 u87 u88 u89 u90 u91 u92 u93 u94 u95 u96 u97 u98 u99 u100 u101 u102 u103 u104 u105 u106 u107 u108 u109 u110 u111 u112 u113 u114 u115 u116 u117 u118 u119 u120 u121 u122 u123 u124 u125 u126 u127 u128 u129 u130 u131 u132 u133 u134 u135 u136 u137 u138 u139 u140 u141 u142 u143 u144 u145 u146 u147 u148 u149 u150 u151 u152 u153 u154 u155 u156 u157 u158 u159 u160 u161 u162 u163 u164 u165 u166 u167 u168 u169 u170 u171 u172 u173 u174 u175 u176 u177 u178 u179 u180 u181 u182 u183 u184 u185 u186 u187 u188 u189 u190 u191 u192 u193 u194 u195 u196 u197 u198 u199 u200 u201 u202 u203 u204 u205 u206 u207 u208 u209 u210 u211 u212 u213 u214 u215 u216 u217 u218 u219 : Value, (∃ s', HObj w w' x b0 b5 (objStep O y) s') ∧ a' = ⟨#[sl0, sl1, sl2, sl3, sl4, .pointer (some ⟨b5, 0, none⟩), sl6, .pointer (some ⟨b7, 0, none⟩), u8, u9, u10, u11, u12, u13, u14, u15, sl16, sl17, sl18, sl19, sl20, sl21, sl22, sl23, sl24, sl25, sl26, sl27, sl28, sl29, sl30, sl31, sl32, sl33, sl34, sl35, sl36, sl37, sl38, sl39, sl40, sl41, sl42, sl43, sl44, sl45, sl46, sl47, sl48, sl49, sl50, sl51, sl52, sl53, sl54, u55, u56, u57, u58, u59, u60, u61, u62, u63, u64, u65, u66, u67, u68, u69, u70, .int .i64 (pick y.kind 9), u72, u73, u74, u75, u76, u77, u78, u79, u80, u81, u82, u83, u84, u85, u86, u87, u88, u89, u90, u91, u92, u93, u94, u95, u96, u97, u98, u99, u100, u101, u102, u103, u104, u105, u106, u107, u108, u109, u110, u111, u112, u113, u114, u115, u116, u117, u118, u119, u120, u121, u122, u123, u124, u125, u126, u127, u128, u129, u130, u131, u132, u133, u134, u135, u136, u137, u138, u139, u140, u141, u142, u143, u144, u145, u146, u147, u148, u149, u150, u151, u152, u153, u154, u155, u156, u157, u158, u159, u160, u161, u162, u163, u164, u165, u166, u167, u168, u169, u170, u171, u172, u173, u174, u175, u176, u177, u178, u179, u180, u181, u182, u183, u184, u185, u186, u187, u188, u189, u190, u191, u192, u193, u194, u195, u196, u197, u198, u199, u200, u201, u202, u203, u204, u205, u206, u207, u208, u209, u210, u211, u212, u213, u214, u215, u216, u217, u218, u219, sl220, sl221, sl222, sl223, sl224, sl225, sl226, sl227, sl228], []⟩) → J a' w') (h2 : ∀ a' w', Met J a' w' → K' a' w') :
    Code.wp Tryd.prog objSw (Exit.then K' Q') ⟨#[sl0, sl1, sl2, sl3, sl4, .pointer (some ⟨b5, 0, none⟩), sl6, .pointer (some ⟨b7, 0, none⟩), sl8, sl9, sl10, sl11, sl12, sl13, sl14, sl15, sl16, sl17, sl18, sl19, sl20, sl21, sl22, sl23, sl24, sl25, sl26, sl27, sl28, sl29, sl30, sl31, sl32, sl33, sl34, sl35, sl36, sl37, sl38, sl39, sl40, sl41, sl42, sl43, sl44, sl45, sl46, sl47, sl48, sl49, sl50, sl51, sl52, sl53, sl54, sl55, sl56, sl57, sl58, sl59, sl60, sl61, sl62, sl63, sl64, sl65, sl66, sl67, sl68, sl69, sl70, .int .i64 (pick y.kind 9), sl72, sl73, sl74, sl75, sl76, sl77, sl78, sl79, sl80, sl81, sl82, sl83, sl84, sl85, sl86, sl87, sl88, sl89, sl90, sl91, sl92, sl93, sl94, sl95, sl96, sl97, sl98, sl99, sl100, sl101, sl102, sl103, sl104, sl105, sl106, sl107, sl108, sl109, sl110, sl111, sl112, sl113, sl114, sl115, sl116, sl117, sl118, sl119, sl120, sl121, sl122, sl123, sl124, sl125, sl126, sl127, sl128, sl129, sl130, sl131, sl132, sl133, sl134, sl135, sl136, sl137, sl138, sl139, sl140, sl141, sl142, sl143, sl144, sl145, sl146, sl147, sl148, sl149, sl150, sl151, sl152, sl153, sl154, sl155, sl156, sl157, sl158, sl159, sl160, sl161, sl162, sl163, sl164, sl165, sl166, sl167, sl168, sl169, sl170, sl171, sl172, sl173, sl174, sl175, sl176, sl177, sl178, sl179, sl180, sl181, sl182, sl183, sl184, sl185, sl186, sl187, sl188, sl189, sl190, sl191, sl192, sl193, sl194, sl195, sl196, sl197, sl198, sl199, sl200, sl201, sl202, sl203, sl204, sl205, sl206, sl207, sl208, sl209, sl210, sl211, sl212, sl213, sl214, sl215, sl216, sl217, sl218, sl219, sl220, sl221, sl222, sl223, sl224, sl225, sl226, sl227, sl228], []⟩ W := by
  have hp9 := pickN_lt y.kind 9 (by omega)
  have hpe : pick y.kind 9 = (pickN y.kind 9 : Int) := pickN_eq y.kind 9 (by omega)
  have hcases : pickN y.kind 9 = 0 ∨ pickN y.kind 9 = 1 ∨ pickN y.kind 9 = 2 ∨ pickN y.kind 9 = 3 ∨ pickN y.kind 9 = 4 ∨ pickN y.kind 9 = 5 ∨ pickN y.kind 9 = 6 ∨ pickN y.kind 9 = 7 ∨ pickN y.kind 9 = 8 := by omega
  generalize pick y.kind 9 = z at *
  rcases hcases with hq | hq | hq | hq | hq | hq | hq | hq | hq
  · obtain rfl : z = 0 := by omega
    exact obj_sw0 sl0 sl1 sl2 sl3 sl4 sl6 sl8 sl9 sl10 sl11 sl12 sl13 sl14 sl15 sl16 sl17 sl18 sl19 sl20 sl21 sl22 sl23 sl24 sl25 sl26 sl27 sl28 sl29 sl30 sl31 sl32 sl33 sl34 sl35 sl36 sl37 sl38 sl39 sl40 sl41 sl42 sl43 sl44 sl45 sl46 sl47 sl48 sl49 sl50 sl51 sl52 sl53 sl54 sl55 sl56 sl57 sl58 sl59 sl60 sl61 sl62 sl63 sl64 sl65 sl66 sl67 sl68 sl69 sl70 sl72 sl73 sl74 sl75 sl76 sl77 sl78 sl79 sl80 sl81 sl82 sl83 sl84 sl85 sl86 sl87 sl88 sl89 sl90 sl91 sl92 sl93 sl94 sl95 sl96 sl97 sl98 sl99 sl100 sl101 sl102 sl103 sl104 sl105 sl106 sl107 sl108 sl109 sl110 sl111 sl112 sl113 sl114 sl115 sl116 sl117 sl118 sl119 sl120 sl121 sl122 sl123 sl124 sl125 sl126 sl127 sl128 sl129 sl130 sl131 sl132 sl133 sl134 sl135 sl136 sl137 sl138 sl139 sl140 sl141 sl142 sl143 sl144 sl145 sl146 sl147 sl148 sl149 sl150 sl151 sl152 sl153 sl154 sl155 sl156 sl157 sl158 sl159 sl160 sl161 sl162 sl163 sl164 sl165 sl166 sl167 sl168 sl169 sl170 sl171 sl172 sl173 sl174 sl175 sl176 sl177 sl178 sl179 sl180 sl181 sl182 sl183 sl184 sl185 sl186 sl187 sl188 sl189 sl190 sl191 sl192 sl193 sl194 sl195 sl196 sl197 sl198 sl199 sl200 sl201 sl202 sl203 sl204 sl205 sl206 sl207 sl208 sl209 sl210 sl211 sl212 sl213 sl214 sl215 sl216 sl217 sl218 sl219 sl220 sl221 sl222 sl223 sl224 sl225 sl226 sl227 sl228 J K' Q' HW RY NE7 NE HOK HN hq h1 h2
  · obtain rfl : z = 1 := by omega
    exact obj_sw1 sl0 sl1 sl2 sl3 sl4 sl6 sl8 sl9 sl10 sl11 sl12 sl13 sl14 sl15 sl16 sl17 sl18 sl19 sl20 sl21 sl22 sl23 sl24 sl25 sl26 sl27 sl28 sl29 sl30 sl31 sl32 sl33 sl34 sl35 sl36 sl37 sl38 sl39 sl40 sl41 sl42 sl43 sl44 sl45 sl46 sl47 sl48 sl49 sl50 sl51 sl52 sl53 sl54 sl55 sl56 sl57 sl58 sl59 sl60 sl61 sl62 sl63 sl64 sl65 sl66 sl67 sl68 sl69 sl70 sl72 sl73 sl74 sl75 sl76 sl77 sl78 sl79 sl80 sl81 sl82 sl83 sl84 sl85 sl86 sl87 sl88 sl89 sl90 sl91 sl92 sl93 sl94 sl95 sl96 sl97 sl98 sl99 sl100 sl101 sl102 sl103 sl104 sl105 sl106 sl107 sl108 sl109 sl110 sl111 sl112 sl113 sl114 sl115 sl116 sl117 sl118 sl119 sl120 sl121 sl122 sl123 sl124 sl125 sl126 sl127 sl128 sl129 sl130 sl131 sl132 sl133 sl134 sl135 sl136 sl137 sl138 sl139 sl140 sl141 sl142 sl143 sl144 sl145 sl146 sl147 sl148 sl149 sl150 sl151 sl152 sl153 sl154 sl155 sl156 sl157 sl158 sl159 sl160 sl161 sl162 sl163 sl164 sl165 sl166 sl167 sl168 sl169 sl170 sl171 sl172 sl173 sl174 sl175 sl176 sl177 sl178 sl179 sl180 sl181 sl182 sl183 sl184 sl185 sl186 sl187 sl188 sl189 sl190 sl191 sl192 sl193 sl194 sl195 sl196 sl197 sl198 sl199 sl200 sl201 sl202 sl203 sl204 sl205 sl206 sl207 sl208 sl209 sl210 sl211 sl212 sl213 sl214 sl215 sl216 sl217 sl218 sl219 sl220 sl221 sl222 sl223 sl224 sl225 sl226 sl227 sl228 J K' Q' HW RY NE7 NE HOK HN hq h1 h2
  · obtain rfl : z = 2 := by omega
    exact obj_sw2 sl0 sl1 sl2 sl3 sl4 sl6 sl8 sl9 sl10 sl11 sl12 sl13 sl14 sl15 sl16 sl17 sl18 sl19 sl20 sl21 sl22 sl23 sl24 sl25 sl26 sl27 sl28 sl29 sl30 sl31 sl32 sl33 sl34 sl35 sl36 sl37 sl38 sl39 sl40 sl41 sl42 sl43 sl44 sl45 sl46 sl47 sl48 sl49 sl50 sl51 sl52 sl53 sl54 sl55 sl56 sl57 sl58 sl59 sl60 sl61 sl62 sl63 sl64 sl65 sl66 sl67 sl68 sl69 sl70 sl72 sl73 sl74 sl75 sl76 sl77 sl78 sl79 sl80 sl81 sl82 sl83 sl84 sl85 sl86 sl87 sl88 sl89 sl90 sl91 sl92 sl93 sl94 sl95 sl96 sl97 sl98 sl99 sl100 sl101 sl102 sl103 sl104 sl105 sl106 sl107 sl108 sl109 sl110 sl111 sl112 sl113 sl114 sl115 sl116 sl117 sl118 sl119 sl120 sl121 sl122 sl123 sl124 sl125 sl126 sl127 sl128 sl129 sl130 sl131 sl132 sl133 sl134 sl135 sl136 sl137 sl138 sl139 sl140 sl141 sl142 sl143 sl144 sl145 sl146 sl147 sl148 sl149 sl150 sl151 sl152 sl153 sl154 sl155 sl156 sl157 sl158 sl159 sl160 sl161 sl162 sl163 sl164 sl165 sl166 sl167 sl168 sl169 sl170 sl171 sl172 sl173 sl174 sl175 sl176 sl177 sl178 sl179 sl180 sl181 sl182 sl183 sl184 sl185 sl186 sl187 sl188 sl189 sl190 sl191 sl192 sl193 sl194 sl195 sl196 sl197 sl198 sl199 sl200 sl201 sl202 sl203 sl204 sl205 sl206 sl207 sl208 sl209 sl210 sl211 sl212 sl213 sl214 sl215 sl216 sl217 sl218 sl219 sl220 sl221 sl222 sl223 sl224 sl225 sl226 sl227 sl228 J K' Q' HW RY NE7 NE HOK HN hq h1 h2
  · obtain rfl : z = 3 := by omega
    exact obj_sw3 sl0 sl1 sl2 sl3 sl4 sl6 sl8 sl9 sl10 sl11 sl12 sl13 sl14 sl15 sl16 sl17 sl18 sl19 sl20 sl21 sl22 sl23 sl24 sl25 sl26 sl27 sl28 sl29 sl30 sl31 sl32 sl33 sl34 sl35 sl36 sl37 sl38 sl39 sl40 sl41 sl42 sl43 sl44 sl45 sl46 sl47 sl48 sl49 sl50 sl51 sl52 sl53 sl54 sl55 sl56 sl57 sl58 sl59 sl60 sl61 sl62 sl63 sl64 sl65 sl66 sl67 sl68 sl69 sl70 sl72 sl73 sl74 sl75 sl76 sl77 sl78 sl79 sl80 sl81 sl82 sl83 sl84 sl85 sl86 sl87 sl88 sl89 sl90 sl91 sl92 sl93 sl94 sl95 sl96 sl97 sl98 sl99 sl100 sl101 sl102 sl103 sl104 sl105 sl106 sl107 sl108 sl109 sl110 sl111 sl112 sl113 sl114 sl115 sl116 sl117 sl118 sl119 sl120 sl121 sl122 sl123 sl124 sl125 sl126 sl127 sl128 sl129 sl130 sl131 sl132 sl133 sl134 sl135 sl136 sl137 sl138 sl139 sl140 sl141 sl142 sl143 sl144 sl145 sl146 sl147 sl148 sl149 sl150 sl151 sl152 sl153 sl154 sl155 sl156 sl157 sl158 sl159 sl160 sl161 sl162 sl163 sl164 sl165 sl166 sl167 sl168 sl169 sl170 sl171 sl172 sl173 sl174 sl175 sl176 sl177 sl178 sl179 sl180 sl181 sl182 sl183 sl184 sl185 sl186 sl187 sl188 sl189 sl190 sl191 sl192 sl193 sl194 sl195 sl196 sl197 sl198 sl199 sl200 sl201 sl202 sl203 sl204 sl205 sl206 sl207 sl208 sl209 sl210 sl211 sl212 sl213 sl214 sl215 sl216 sl217 sl218 sl219 sl220 sl221 sl222 sl223 sl224 sl225 sl226 sl227 sl228 J K' Q' HW RY NE7 NE HOK HN hq h1 h2
  · obtain rfl : z = 4 := by omega
    exact obj_sw4 sl0 sl1 sl2 sl3 sl4 sl6 sl8 sl9 sl10 sl11 sl12 sl13 sl14 sl15 sl16 sl17 sl18 sl19 sl20 sl21 sl22 sl23 sl24 sl25 sl26 sl27 sl28 sl29 sl30 sl31 sl32 sl33 sl34 sl35 sl36 sl37 sl38 sl39 sl40 sl41 sl42 sl43 sl44 sl45 sl46 sl47 sl48 sl49 sl50 sl51 sl52 sl53 sl54 sl55 sl56 sl57 sl58 sl59 sl60 sl61 sl62 sl63 sl64 sl65 sl66 sl67 sl68 sl69 sl70 sl72 sl73 sl74 sl75 sl76 sl77 sl78 sl79 sl80 sl81 sl82 sl83 sl84 sl85 sl86 sl87 sl88 sl89 sl90 sl91 sl92 sl93 sl94 sl95 sl96 sl97 sl98 sl99 sl100 sl101 sl102 sl103 sl104 sl105 sl106 sl107 sl108 sl109 sl110 sl111 sl112 sl113 sl114 sl115 sl116 sl117 sl118 sl119 sl120 sl121 sl122 sl123 sl124 sl125 sl126 sl127 sl128 sl129 sl130 sl131 sl132 sl133 sl134 sl135 sl136 sl137 sl138 sl139 sl140 sl141 sl142 sl143 sl144 sl145 sl146 sl147 sl148 sl149 sl150 sl151 sl152 sl153 sl154 sl155 sl156 sl157 sl158 sl159 sl160 sl161 sl162 sl163 sl164 sl165 sl166 sl167 sl168 sl169 sl170 sl171 sl172 sl173 sl174 sl175 sl176 sl177 sl178 sl179 sl180 sl181 sl182 sl183 sl184 sl185 sl186 sl187 sl188 sl189 sl190 sl191 sl192 sl193 sl194 sl195 sl196 sl197 sl198 sl199 sl200 sl201 sl202 sl203 sl204 sl205 sl206 sl207 sl208 sl209 sl210 sl211 sl212 sl213 sl214 sl215 sl216 sl217 sl218 sl219 sl220 sl221 sl222 sl223 sl224 sl225 sl226 sl227 sl228 J K' Q' HW RY NE7 NE HOK HN hq h1 h2
  · obtain rfl : z = 5 := by omega
    exact obj_sw5 sl0 sl1 sl2 sl3 sl4 sl6 sl8 sl9 sl10 sl11 sl12 sl13 sl14 sl15 sl16 sl17 sl18 sl19 sl20 sl21 sl22 sl23 sl24 sl25 sl26 sl27 sl28 sl29 sl30 sl31 sl32 sl33 sl34 sl35 sl36 sl37 sl38 sl39 sl40 sl41 sl42 sl43 sl44 sl45 sl46 sl47 sl48 sl49 sl50 sl51 sl52 sl53 sl54 sl55 sl56 sl57 sl58 sl59 sl60 sl61 sl62 sl63 sl64 sl65 sl66 sl67 sl68 sl69 sl70 sl72 sl73 sl74 sl75 sl76 sl77 sl78 sl79 sl80 sl81 sl82 sl83 sl84 sl85 sl86 sl87 sl88 sl89 sl90 sl91 sl92 sl93 sl94 sl95 sl96 sl97 sl98 sl99 sl100 sl101 sl102 sl103 sl104 sl105 sl106 sl107 sl108 sl109 sl110 sl111 sl112 sl113 sl114 sl115 sl116 sl117 sl118 sl119 sl120 sl121 sl122 sl123 sl124 sl125 sl126 sl127 sl128 sl129 sl130 sl131 sl132 sl133 sl134 sl135 sl136 sl137 sl138 sl139 sl140 sl141 sl142 sl143 sl144 sl145 sl146 sl147 sl148 sl149 sl150 sl151 sl152 sl153 sl154 sl155 sl156 sl157 sl158 sl159 sl160 sl161 sl162 sl163 sl164 sl165 sl166 sl167 sl168 sl169 sl170 sl171 sl172 sl173 sl174 sl175 sl176 sl177 sl178 sl179 sl180 sl181 sl182 sl183 sl184 sl185 sl186 sl187 sl188 sl189 sl190 sl191 sl192 sl193 sl194 sl195 sl196 sl197 sl198 sl199 sl200 sl201 sl202 sl203 sl204 sl205 sl206 sl207 sl208 sl209 sl210 sl211 sl212 sl213 sl214 sl215 sl216 sl217 sl218 sl219 sl220 sl221 sl222 sl223 sl224 sl225 sl226 sl227 sl228 J K' Q' HW RY NE7 NE HOK HN hq h1 h2
  · obtain rfl : z = 6 := by omega
    exact obj_sw6 sl0 sl1 sl2 sl3 sl4 sl6 sl8 sl9 sl10 sl11 sl12 sl13 sl14 sl15 sl16 sl17 sl18 sl19 sl20 sl21 sl22 sl23 sl24 sl25 sl26 sl27 sl28 sl29 sl30 sl31 sl32 sl33 sl34 sl35 sl36 sl37 sl38 sl39 sl40 sl41 sl42 sl43 sl44 sl45 sl46 sl47 sl48 sl49 sl50 sl51 sl52 sl53 sl54 sl55 sl56 sl57 sl58 sl59 sl60 sl61 sl62 sl63 sl64 sl65 sl66 sl67 sl68 sl69 sl70 sl72 sl73 sl74 sl75 sl76 sl77 sl78 sl79 sl80 sl81 sl82 sl83 sl84 sl85 sl86 sl87 sl88 sl89 sl90 sl91 sl92 sl93 sl94 sl95 sl96 sl97 sl98 sl99 sl100 sl101 sl102 sl103 sl104 sl105 sl106 sl107 sl108 sl109 sl110 sl111 sl112 sl113 sl114 sl115 sl116 sl117 sl118 sl119 sl120 sl121 sl122 sl123 sl124 sl125 sl126 sl127 sl128 sl129 sl130 sl131 sl132 sl133 sl134 sl135 sl136 sl137 sl138 sl139 sl140 sl141 sl142 sl143 sl144 sl145 sl146 sl147 sl148 sl149 sl150 sl151 sl152 sl153 sl154 sl155 sl156 sl157 sl158 sl159 sl160 sl161 sl162 sl163 sl164 sl165 sl166 sl167 sl168 sl169 sl170 sl171 sl172 sl173 sl174 sl175 sl176 sl177 sl178 sl179 sl180 sl181 sl182 sl183 sl184 sl185 sl186 sl187 sl188 sl189 sl190 sl191 sl192 sl193 sl194 sl195 sl196 sl197 sl198 sl199 sl200 sl201 sl202 sl203 sl204 sl205 sl206 sl207 sl208 sl209 sl210 sl211 sl212 sl213 sl214 sl215 sl216 sl217 sl218 sl219 sl220 sl221 sl222 sl223 sl224 sl225 sl226 sl227 sl228 J K' Q' HW RY NE7 NE HOK HN hq h1 h2
  · obtain rfl : z = 7 := by omega
    exact obj_sw7 sl0 sl1 sl2 sl3 sl4 sl6 sl8 sl9 sl10 sl11 sl12 sl13 sl14 sl15 sl16 sl17 sl18 sl19 sl20 sl21 sl22 sl23 sl24 sl25 sl26 sl27 sl28 sl29 sl30 sl31 sl32 sl33 sl34 sl35 sl36 sl37 sl38 sl39 sl40 sl41 sl42 sl43 sl44 sl45 sl46 sl47 sl48 sl49 sl50 sl51 sl52 sl53 sl54 sl55 sl56 sl57 sl58 sl59 sl60 sl61 sl62 sl63 sl64 sl65 sl66 sl67 sl68 sl69 sl70 sl72 sl73 sl74 sl75 sl76 sl77 sl78 sl79 sl80 sl81 sl82 sl83 sl84 sl85 sl86 sl87 sl88 sl89 sl90 sl91 sl92 sl93 sl94 sl95 sl96 sl97 sl98 sl99 sl100 sl101 sl102 sl103 sl104 sl105 sl106 sl107 sl108 sl109 sl110 sl111 sl112 sl113 sl114 sl115 sl116 sl117 sl118 sl119 sl120 sl121 sl122 sl123 sl124 sl125 sl126 sl127 sl128 sl129 sl130 sl131 sl132 sl133 sl134 sl135 sl136 sl137 sl138 sl139 sl140 sl141 sl142 sl143 sl144 sl145 sl146 sl147 sl148 sl149 sl150 sl151 sl152 sl153 sl154 sl155 sl156 sl157 sl158 sl159 sl160 sl161 sl162 sl163 sl164 sl165 sl166 sl167 sl168 sl169 sl170 sl171 sl172 sl173 sl174 sl175 sl176 sl177 sl178 sl179 sl180 sl181 sl182 sl183 sl184 sl185 sl186 sl187 sl188 sl189 sl190 sl191 sl192 sl193 sl194 sl195 sl196 sl197 sl198 sl199 sl200 sl201 sl202 sl203 sl204 sl205 sl206 sl207 sl208 sl209 sl210 sl211 sl212 sl213 sl214 sl215 sl216 sl217 sl218 sl219 sl220 sl221 sl222 sl223 sl224 sl225 sl226 sl227 sl228 J K' Q' HW RY NE7 NE HOK HN hq h1 h2
  · obtain rfl : z = 8 := by omega
    exact obj_sw8 sl0 sl1 sl2 sl3 sl4 sl6 sl8 sl9 sl10 sl11 sl12 sl13 sl14 sl15 sl16 sl17 sl18 sl19 sl20 sl21 sl22 sl23 sl24 sl25 sl26 sl27 sl28 sl29 sl30 sl31 sl32 sl33 sl34 sl35 sl36 sl37 sl38 sl39 sl40 sl41 sl42 sl43 sl44 sl45 sl46 sl47 sl48 sl49 sl50 sl51 sl52 sl53 sl54 sl55 sl56 sl57 sl58 sl59 sl60 sl61 sl62 sl63 sl64 sl65 sl66 sl67 sl68 sl69 sl70 sl72 sl73 sl74 sl75 sl76 sl77 sl78 sl79 sl80 sl81 sl82 sl83 sl84 sl85 sl86 sl87 sl88 sl89 sl90 sl91 sl92 sl93 sl94 sl95 sl96 sl97 sl98 sl99 sl100 sl101 sl102 sl103 sl104 sl105 sl106 sl107 sl108 sl109 sl110 sl111 sl112 sl113 sl114 sl115 sl116 sl117 sl118 sl119 sl120 sl121 sl122 sl123 sl124 sl125 sl126 sl127 sl128 sl129 sl130 sl131 sl132 sl133 sl134 sl135 sl136 sl137 sl138 sl139 sl140 sl141 sl142 sl143 sl144 sl145 sl146 sl147 sl148 sl149 sl150 sl151 sl152 sl153 sl154 sl155 sl156 sl157 sl158 sl159 sl160 sl161 sl162 sl163 sl164 sl165 sl166 sl167 sl168 sl169 sl170 sl171 sl172 sl173 sl174 sl175 sl176 sl177 sl178 sl179 sl180 sl181 sl182 sl183 sl184 sl185 sl186 sl187 sl188 sl189 sl190 sl191 sl192 sl193 sl194 sl195 sl196 sl197 sl198 sl199 sl200 sl201 sl202 sl203 sl204 sl205 sl206 sl207 sl208 sl209 sl210 sl211 sl212 sl213 sl214 sl215 sl216 sl217 sl218 sl219 sl220 sl221 sl222 sl223 sl224 sl225 sl226 sl227 sl228 J K' Q' HW RY NE7 NE HOK HN hq h1 h2
end
section
open Go.RowKit
set_option linter.unusedVariables false
set_option linter.unusedSimpArgs false
set_option maxRecDepth 1000000
set_option maxHeartbeats 16000000
theorem obj_rd {w wr : World} {x y : RawD} {b0 b5 : Nat} {O : ObjD} {s : ObjV} {bL oL nL cL k : Nat} (sl0 sl2 sl3 sl4 sl7 sl8 sl9 sl10 sl11 sl12 sl13 sl14 sl15 sl16 sl17 sl18 sl19 sl20 sl21 sl22 sl23 sl24 sl25 sl26 sl27 sl28 sl29 sl30 sl31 sl32 sl33 sl34 sl35 sl36 sl37 sl38 sl39 sl40 sl41 sl42 sl43 sl44 sl45 sl46 sl47 sl48 sl49 sl50 sl51 sl52 sl53 sl54 sl55 sl56 sl57 sl58 sl59 sl60 sl61 sl62 sl63 sl64 sl65 sl66 sl67 sl68 sl69 sl70 sl71 sl72 sl73 sl74 sl75 sl76 sl77 sl78 sl79 sl80 sl81 sl82 sl83 sl84 sl85 sl86 sl87 sl88 sl89 sl90 sl91 sl92 sl93 sl94 sl95 sl96 sl97 sl98 sl99 sl100 sl101 sl102 sl103 sl104 sl105 sl106 sl107 sl108 sl109 sl110 sl111 sl112 sl113 sl114 sl115 sl116 sl117 sl118 sl119 sl120 sl121 sl122 sl123 sl124 sl125 sl126 sl127 sl128 sl129 sl130 sl131 sl132 sl133 sl134 sl135 sl136 sl137 sl138 sl139 sl140 sl141 sl142 sl143 sl144 sl145 sl146 sl147 sl148 sl149 sl150 sl151 sl152 sl153 sl154 sl155 sl156 sl157 sl158 sl159 sl160 sl161 sl162 sl163 sl164 sl165 sl166 sl167 sl168 sl169 sl170 sl171 sl172 sl173 sl174 sl175 sl176 sl177 sl178 sl179 sl180 sl181 sl182 sl183 sl184 sl185 sl186 sl187 sl188 sl189 sl190 sl191 sl192 sl193 sl194 sl195 sl196 sl197 sl198 sl199 sl200 sl201 sl202 sl203 sl204 sl205 sl206 sl207 sl208 sl209 sl210 sl211 sl212 sl213 sl214 sl215 sl216 sl217 sl218 sl219 sl220 sl221 sl222 sl223 sl224 sl225 sl226 sl227 sl228 : Value) (J K' : Act → World → Prop) (Q' : Exit → Act → World → Prop)
    (HO : Hid (HObj w wr x b0 b5 O s)) (hlt : k < nL) (hk10 : k < 10) (hnL : nL ≤ 140737488355328) (HOK : Hid y.ok)
    (c0 : wr.cell? ⟨bL, oL + k * 4, none⟩ = some (.int .i64 y.kind)) (c1 : wr.cell? ⟨bL, oL + k * 4 + 1, none⟩ = some (.int .i64 y.a)) (c2 : wr.cell? ⟨bL, oL + k * 4 + 2, none⟩ = some (.int .i64 y.b)) (c3 : wr.cell? ⟨bL, oL + k * 4 + 3, none⟩ = some (.int .i64 y.c))
    (HN : Hid (O.names.length ≤ 10 ∧ O.links.length ≤ 10 ∧ O.custom.length ≤ 10))
    (h1 : ∀ a' w', (∃ u7 u8 u9 u10 u11 u12 u13 u14 u15 u55 u56 u57 u58 u59 u60 u61 u62 u63 u64 u65 u66 u67 u68 u69 u70 u71 u72 u73 u74 u75 u76 u77 u78 u79 u80 u81 u82 u83 u84 u85 u86 u87 u88 u89 u90 u91 u92 u93 u94 u95 u96 u97 u98 u99 u100 u101 u102 u103 u104 u105 u106 u107 u108 u109 u110 u111 u112 u113 u114 u115 u116 u117 u118 u119 u120 u121 u122 u123 u124 u125 u126 u127 u128 u129 u130 u131 u132 u133 u134 u135 u136 u137 u138 u139 u140 u141 u142 u143 u144 u145 u146 u147 u148 u149 u150 u151 u152 u153 u154 u155 u156 u157 u158 u159 u160 u161 u162 u163 u164 u165 u166 u167 u168 u169 u170 u171 u172 u173 u174 u175 u176 u177 u178 u179 u180 u181 u182 u183 u184 u185 u186 u187 u188 u189 u190 u191 u192 u193 u194 u195 u196 u197 u198 u199 u200 u201 u202 u203 u204 u205 u206 u207 u208 u209 u210 u211 u212 u213 u214 u215 u216 u217 u218 u219 : Value, (∃ s', HObj w w' x b0 b5 (objStep O y) s') ∧ a' = ⟨#[sl0, .slice (some ⟨bL, oL, none⟩) nL cL, sl2, sl3, sl4, .pointer (some ⟨b5, 0, none⟩), .int .i64 (k : Int), u7, u8, u9, u10, u11, u12, u13, u14, u15, sl16, sl17, sl18, sl19, sl20, sl21, sl22, sl23, sl24, sl25, sl26, sl27, sl28, sl29, sl30, sl31, sl32, sl33, sl34, sl35, sl36, sl37, sl38, sl39, sl40, sl41, sl42, sl43, sl44, sl45, sl46, sl47, sl48, sl49, sl50, sl51, sl52, sl53, sl54, u55, u56, u57, u58, u59, u60, u61, u62, u63, u64, u65, u66, u67, u68, u69, u70, u71, u72, u73, u74, u75, u76, u77, u78, u79, u80, u81, u82, u83, u84, u85, u86, u87, u88, u89, u90, u91, u92, u93, u94, u95, u96, u97, u98, u99, u100, u101, u102, u103, u104, u105, u106, u107, u108, u109, u110, u111, u112, u113, u114, u115, u116, u117, u118, u119, u120, u121, u122, u123, u124, u125, u126, u127, u128, u129, u130, u131, u132, u133, u134, u135, u136, u137, u138, u139, u140, u141, u142, u143, u144, u145, u146, u147, u148, u149, u150, u151, u152, u153, u154, u155, u156, u157, u158, u159, u160, u161, u162, u163, u164, u165, u166, u167, u168, u169, u170, u171, u172, u173, u174, u175, u176, u177, u178, u179, u180, u181, u182, u183, u184, u185, u186, u187, u188, u189, u190, u191, u192, u193, u194, u195, u196, u197, u198, u199, u200, u201, u202, u203, u204, u205, u206, u207, u208, u209, u210, u211, u212, u213, u214, u215, u216, u217, u218, u219, sl220, sl221, sl222, sl223, sl224, sl225, sl226, sl227, sl228], []⟩) → J a' w') (h2 : ∀ a' w', Met J a' w' → K' a' w') :
    Code.wp Tryd.prog objRd (Exit.then K' Q') ⟨#[sl0, .slice (some ⟨bL, oL, none⟩) nL cL, sl2, sl3, sl4, .pointer (some ⟨b5, 0, none⟩), .int .i64 (k : Int), sl7, sl8, sl9, sl10, sl11, sl12, sl13, sl14, sl15, sl16, sl17, sl18, sl19, sl20, sl21, sl22, sl23, sl24, sl25, sl26, sl27, sl28, sl29, sl30, sl31, sl32, sl33, sl34, sl35, sl36, sl37, sl38, sl39, sl40, sl41, sl42, sl43, sl44, sl45, sl46, sl47, sl48, sl49, sl50, sl51, sl52, sl53, sl54, sl55, sl56, sl57, sl58, sl59, sl60, sl61, sl62, sl63, sl64, sl65, sl66, sl67, sl68, sl69, sl70, sl71, sl72, sl73, sl74, sl75, sl76, sl77, sl78, sl79, sl80, sl81, sl82, sl83, sl84, sl85, sl86, sl87, sl88, sl89, sl90, sl91, sl92, sl93, sl94, sl95, sl96, sl97, sl98, sl99, sl100, sl101, sl102, sl103, sl104, sl105, sl106, sl107, sl108, sl109, sl110, sl111, sl112, sl113, sl114, sl115, sl116, sl117, sl118, sl119, sl120, sl121, sl122, sl123, sl124, sl125, sl126, sl127, sl128, sl129, sl130, sl131, sl132, sl133, sl134, sl135, sl136, sl137, sl138, sl139, sl140, sl141, sl142, sl143, sl144, sl145, sl146, sl147, sl148, sl149, sl150, sl151, sl152, sl153, sl154, sl155, sl156, sl157, sl158, sl159, sl160, sl161, sl162, sl163, sl164, sl165, sl166, sl167, sl168, sl169, sl170, sl171, sl172, sl173, sl174, sl175, sl176, sl177, sl178, sl179, sl180, sl181, sl182, sl183, sl184, sl185, sl186, sl187, sl188, sl189, sl190, sl191, sl192, sl193, sl194, sl195, sl196, sl197, sl198, sl199, sl200, sl201, sl202, sl203, sl204, sl205, sl206, sl207, sl208, sl209, sl210, sl211, sl212, sl213, sl214, sl215, sl216, sl217, sl218, sl219, sl220, sl221, sl222, sl223, sl224, sl225, sl226, sl227, sl228], []⟩ wr := by
  conv => arg 2; whnf
  go_upto_region 7 with (fail)
  clear c0 c1 c2 c3
  have HW := hid (HO.out.below ((Below.refl _ wr).alloc (Nat.le_refl _) (.cells #[.int .i64 y.kind, .int .i64 y.a, .int .i64 y.b, .int .i64 y.c] 41)))
  have RY := hid (block_new wr (.cells #[.int .i64 y.kind, .int .i64 y.a, .int .i64 y.b, .int .i64 y.c] 41))
  have NE := hid (show b5 < wr.heap.size from HO.out.size)
  clear HO
  generalize wr.alloc (.cells #[.int .i64 y.kind, .int .i64 y.a, .int .i64 y.b, .int .i64 y.c] 41) = W at *
  generalize wr.heap.size = b7 at *
  have NE7 := hid (show b7 ≠ b5 by have := NE.out; omega)
  have y0 := cell_of_block (j := 0) RY.out rfl
  go_upto_block 2 with (go_at_call 21; refine (pick_any y.kind 9 _ (by omega) (by omega)).mono ?_; rintro e u ⟨rfl, rfl⟩)
  clear y0
  refine wp_last (fun K2 hK2 => ?_)
  refine wp_cut _ ?rest (fun J2 K2' g1 g2 => obj_sw _ _ _ _ _ _ _ _ _ _ _ _ _ _ _ _ _ _ _ _ _ _ _ _ _ _ _ _ _ _ _ _ _ _ _ _ _ _ _ _ _ _ _ _ _ _ _ _ _ _ _ _ _ _ _ _ _ _ _ _ _ _ _ _ _ _ _ _ _ _ _ _ _ _ _ _ _ _ _ _ _ _ _ _ _ _ _ _ _ _ _ _ _ _ _ _ _ _ _ _ _ _ _ _ _ _ _ _ _ _ _ _ _ _ _ _ _ _ _ _ _ _ _ _ _ _ _ _ _ _ _ _ _ _ _ _ _ _ _ _ _ _ _ _ _ _ _ _ _ _ _ _ _ _ _ _ _ _ _ _ _ _ _ _ _ _ _ _ _ _ _ _ _ _ _ _ _ _ _ _ _ _ _ _ _ _ _ _ _ _ _ _ _ _ _ _ _ _ _ _ _ _ _ _ _ _ _ _ _ _ _ _ _ _ _ _ _ _ _ _ _ _ _ _ _ _ J2 K2' _ HW RY NE7 NE HOK HN g1 g2)
  intro _ wc hinv
  obtain ⟨u8, hinv⟩ := hinv
  obtain ⟨u9, hinv⟩ := hinv
  obtain ⟨u10, hinv⟩ := hinv
  obtain ⟨u11, hinv⟩ := hinv
  obtain ⟨u12, hinv⟩ := hinv
  obtain ⟨u13, hinv⟩ := hinv
  obtain ⟨u14, hinv⟩ := hinv
  obtain ⟨u15, hinv⟩ := hinv
  obtain ⟨u55, hinv⟩ := hinv
  obtain ⟨u56, hinv⟩ := hinv
  obtain ⟨u57, hinv⟩ := hinv
  obtain ⟨u58, hinv⟩ := hinv
  obtain ⟨u59, hinv⟩ := hinv
  obtain ⟨u60, hinv⟩ := hinv
  obtain ⟨u61, hinv⟩ := hinv
  obtain ⟨u62, hinv⟩ := hinv
  obtain ⟨u63, hinv⟩ := hinv
  obtain ⟨u64, hinv⟩ := hinv
  obtain ⟨u65, hinv⟩ := hinv
  obtain ⟨u66, hinv⟩ := hinv
  obtain ⟨u67, hinv⟩ := hinv
  obtain ⟨u68, hinv⟩ := hinv
  obtain ⟨u69, hinv⟩ := hinv
  obtain ⟨u70, hinv⟩ := hinv
  obtain ⟨u72, hinv⟩ := hinv
  obtain ⟨u73, hinv⟩ := hinv
  obtain ⟨u74, hinv⟩ := hinv
  obtain ⟨u75, hinv⟩ := hinv
  obtain ⟨u76, hinv⟩ := hinv
  obtain ⟨u77, hinv⟩ := hinv
  obtain ⟨u78, hinv⟩ := hinv
  obtain ⟨u79, hinv⟩ := hinv
  obtain ⟨u80, hinv⟩ := hinv
  obtain ⟨u81, hinv⟩ := hinv
  obtain ⟨u82, hinv⟩ := hinv
  obtain ⟨u83, hinv⟩ := hinv
  obtain ⟨u84, hinv⟩ := hinv
  obtain ⟨u85, hinv⟩ := hinv
  obtain ⟨u86, hinv⟩ := hinv
  obtain ⟨u87, hinv⟩ := hinv
  obtain ⟨u88, hinv⟩ := hinv
  obtain ⟨u89, hinv⟩ := hinv
  obtain ⟨u90, hinv⟩ := hinv
  obtain ⟨u91, hinv⟩ := hinv
  obtain ⟨u92, hinv⟩ := hinv
  obtain ⟨u93, hinv⟩ := hinv
  obtain ⟨u94, hinv⟩ := hinv
  obtain ⟨u95, hinv⟩ := hinv
  obtain ⟨u96, hinv⟩ := hinv
  obtain ⟨u97, hinv⟩ := hinv
  obtain ⟨u98, hinv⟩ := hinv
  obtain ⟨u99, hinv⟩ := hinv
  obtain ⟨u100, hinv⟩ := hinv
  obtain ⟨u101, hinv⟩ := hinv
  obtain ⟨u102, hinv⟩ := hinv
  obtain ⟨u103, hinv⟩ := hinv
  obtain ⟨u104, hinv⟩ := hinv
  obtain ⟨u105, hinv⟩ := hinv
  obtain ⟨u106, hinv⟩ := hinv
  obtain ⟨u107, hinv⟩ := hinv
  obtain ⟨u108, hinv⟩ := hinv
  obtain ⟨u109, hinv⟩ := hinv
  obtain ⟨u110, hinv⟩ := hinv
  obtain ⟨u111, hinv⟩ := hinv
  obtain ⟨u112, hinv⟩ := hinv
  obtain ⟨u113, hinv⟩ := hinv
  obtain ⟨u114, hinv⟩ := hinv
  obtain ⟨u115, hinv⟩ := hinv
  obtain ⟨u116, hinv⟩ := hinv
  obtain ⟨u117, hinv⟩ := hinv
  obtain ⟨u118, hinv⟩ := hinv
  obtain ⟨u119, hinv⟩ := hinv
  obtain ⟨u120, hinv⟩ := hinv
  obtain ⟨u121, hinv⟩ := hinv
  obtain ⟨u122, hinv⟩ := hinv
  obtain ⟨u123, hinv⟩ := hinv
  obtain ⟨u124, hinv⟩ := hinv
  obtain ⟨u125, hinv⟩ := hinv
  obtain ⟨u126, hinv⟩ := hinv
  obtain ⟨u127, hinv⟩ := hinv
  obtain ⟨u128, hinv⟩ := hinv
  obtain ⟨u129, hinv⟩ := hinv
  obtain ⟨u130, hinv⟩ := hinv
  obtain ⟨u131, hinv⟩ := hinv
  obtain ⟨u132, hinv⟩ := hinv
  obtain ⟨u133, hinv⟩ := hinv
  obtain ⟨u134, hinv⟩ := hinv
  obtain ⟨u135, hinv⟩ := hinv
  obtain ⟨u136, hinv⟩ := hinv
  obtain ⟨u137, hinv⟩ := hinv
  obtain ⟨u138, hinv⟩ := hinv
  obtain ⟨u139, hinv⟩ := hinv
  obtain ⟨u140, hinv⟩ := hinv
  obtain ⟨u141, hinv⟩ := hinv
  obtain ⟨u142, hinv⟩ := hinv
  obtain ⟨u143, hinv⟩ := hinv
  obtain ⟨u144, hinv⟩ := hinv
  obtain ⟨u145, hinv⟩ := hinv
  obtain ⟨u146, hinv⟩ := hinv
  obtain ⟨u147, hinv⟩ := hinv
  obtain ⟨u148, hinv⟩ := hinv
  obtain ⟨u149, hinv⟩ := hinv
  obtain ⟨u150, hinv⟩ := hinv
  obtain ⟨u151, hinv⟩ := hinv
  obtain ⟨u152, hinv⟩ := hinv
  obtain ⟨u153, hinv⟩ := hinv
  obtain ⟨u154, hinv⟩ := hinv
  obtain ⟨u155, hinv⟩ := hinv
  obtain ⟨u156, hinv⟩ := hinv
  obtain ⟨u157, hinv⟩ := hinv
  obtain ⟨u158, hinv⟩ := hinv
  obtain ⟨u159, hinv⟩ := hinv
  obtain ⟨u160, hinv⟩ := hinv
  obtain ⟨u161, hinv⟩ := hinv
  obtain ⟨u162, hinv⟩ := hinv
  obtain ⟨u163, hinv⟩ := hinv
  obtain ⟨u164, hinv⟩ := hinv
  obtain ⟨u165, hinv⟩ := hinv
  obtain ⟨u166, hinv⟩ := hinv
  obtain ⟨u167, hinv⟩ := hinv
  obtain ⟨u168, hinv⟩ := hinv
  obtain ⟨u169, hinv⟩ := hinv
  obtain ⟨u170, hinv⟩ := hinv
  obtain ⟨u171, hinv⟩ := hinv
  obtain ⟨u172, hinv⟩ := hinv
  obtain ⟨u173, hinv⟩ := hinv
  obtain ⟨u174, hinv⟩ := hinv
  obtain ⟨u175, hinv⟩ := hinv
  obtain ⟨u176, hinv⟩ := hinv
  obtain ⟨u177, hinv⟩ := hinv
  obtain ⟨u178, hinv⟩ := hinv
  obtain ⟨u179, hinv⟩ := hinv
  obtain ⟨u180, hinv⟩ := hinv
  obtain ⟨u181, hinv⟩ := hinv
  obtain ⟨u182, hinv⟩ := hinv
  obtain ⟨u183, hinv⟩ := hinv
  obtain ⟨u184, hinv⟩ := hinv
  obtain ⟨u185, hinv⟩ := hinv
  obtain ⟨u186, hinv⟩ := hinv
  obtain ⟨u187, hinv⟩ := hinv
  obtain ⟨u188, hinv⟩ := hinv
  obtain ⟨u189, hinv⟩ := hinv
  obtain ⟨u190, hinv⟩ := hinv
  obtain ⟨u191, hinv⟩ := hinv
  obtain ⟨u192, hinv⟩ := hinv
  obtain ⟨u193, hinv⟩ := hinv
  obtain ⟨u194, hinv⟩ := hinv
  obtain ⟨u195, hinv⟩ := hinv
  obtain ⟨u196, hinv⟩ := hinv
  obtain ⟨u197, hinv⟩ := hinv
  obtain ⟨u198, hinv⟩ := hinv
  obtain ⟨u199, hinv⟩ := hinv
  obtain ⟨u200, hinv⟩ := hinv
  obtain ⟨u201, hinv⟩ := hinv
  obtain ⟨u202, hinv⟩ := hinv
  obtain ⟨u203, hinv⟩ := hinv
  obtain ⟨u204, hinv⟩ := hinv
  obtain ⟨u205, hinv⟩ := hinv
  obtain ⟨u206, hinv⟩ := hinv
  obtain ⟨u207, hinv⟩ := hinv
  obtain ⟨u208, hinv⟩ := hinv
  obtain ⟨u209, hinv⟩ := hinv
  obtain ⟨u210, hinv⟩ := hinv
  obtain ⟨u211, hinv⟩ := hinv
  obtain ⟨u212, hinv⟩ := hinv
  obtain ⟨u213, hinv⟩ := hinv
  obtain ⟨u214, hinv⟩ := hinv
  obtain ⟨u215, hinv⟩ := hinv
  obtain ⟨u216, hinv⟩ := hinv
  obtain ⟨u217, hinv⟩ := hinv
  obtain ⟨u218, hinv⟩ := hinv
  obtain ⟨u219, hinv⟩ := hinv
  obtain ⟨hcut, ha⟩ := hinv
  subst ha
  obtain ⟨s', ho⟩ := hcut
  go_wp2_with fail
  go_meet
  exact ⟨s', ho⟩
end
section
open Go.RowKit
set_option linter.unusedVariables false
set_option linter.unusedSimpArgs false
set_option maxRecDepth 1000000
set_option maxHeartbeats 16000000
theorem object_any (x : RawD) (hx : x.ok) (l : List RawD) (aL : Option Addr) (nL cL : Nat) (w : World) (hal : ArgSl 4 RawR w (.slice aL nL cL) l) :
    Calls Tryd.prog 20 #[.agg x.cells, .slice aL nL cL] w fun e w' => ∃ s, e = .returned (.agg (objCells (objRaw x l) s)) ∧ ObjM w' (objRaw x l) s ∧ (∀ k ∈ s.foot, w.heap.size ≤ k) ∧ Below w.heap.size w w' := by
  have HAL := hid hal; clear hal
  generalize hbe : w.heap.size = b0
  have HBE := hid hbe; clear hbe
  have hsx := tdiv_in x.a 12 (by omega) hx.2.1
  have hsy := tdiv_in x.b 5 (by omega) hx.2.2.1
  have HX := hid hx; have HSX := hid hsx; have HSY := hid hsy
  clear hx hsx hsy
  go_enter Tryd.func20, Tryd.ntmps20
  go_upto_region 1 with (refine wpList_alloc_obj rfl 35 rfl _ oZeroO ?_)
  go_simp
  have h1 : ((w.alloc (.cells x.cells 41)).alloc (.cells (objCells zObj zObjV) 35)).heap[w.heap.size]? = some (.cells x.cells 41 (0, 0)) := heap_alloc2_old _ _ _
  have h2 : ((w.alloc (.cells x.cells 41)).alloc (.cells (objCells zObj zObjV) 35)).heap[w.heap.size + 1]? = some (.cells (objCells zObj zObjV) 35 (0, 0)) := heap_alloc2_new _ _ _
  have h3 : Below w.heap.size w ((w.alloc (.cells x.cells 41)).alloc (.cells (objCells zObj zObjV) 35)) := ((Below.refl _ _).alloc (Nat.le_refl _) _).alloc (by simp) _
  have h4 : ((w.alloc (.cells x.cells 41)).alloc (.cells (objCells zObj zObjV) 35)).heap.size = w.heap.size + 2 := by simp
  rw [HBE.out] at h1 h2 h3 h4 ⊢
  generalize (w.alloc (.cells x.cells 41)).alloc (.cells (objCells zObj zObjV) 35) = W at *
  have H1 := hid h1; have H2 := hid h2; have H3 := hid h3; have H4 := hid h4
  clear h1 h2 h3 h4
  refine wp_region_each 34 [.eq (.pointer (some ⟨b0, 1, none⟩)), .eq (.int .i64 x.a), .eq (.string (handId x.a)), .eq (.agg (intsA typL)), .eq (.pointer (some ⟨b0, 2, none⟩)), .eq (.int .i64 x.b), .eq (.int .i64 (pick x.b 5)), .eq (.int .i64 (typL.getD (pickN x.b 5) 0)), .eq (.agg (intsA algL)), .eq (.pointer (some ⟨b0, 3, none⟩)), .eq (.int .i64 x.c), .eq (.int .i64 (pick x.c 4)), .eq (.int .i64 (algL.getD (pickN x.c 4) 0)), .eq (.agg (intsA maskL)), .eq (.pointer (some ⟨b0, 1, none⟩)), .eq (.int .i64 x.a), .eq (.int .i64 (x.a.tdiv 12)), .eq (.int .i64 (pick (x.a.tdiv 12) 5)), .eq (.int .i64 (maskL.getD (pickN (x.a.tdiv 12) 5) 0)), .eq (.agg matA), .eq (.pointer (some ⟨b0, 2, none⟩)), .eq (.int .i64 x.b), .eq (.int .i64 (x.b.tdiv 5)), .eq (.int .i64 (pick (x.b.tdiv 5) 5)), .eq (.int .i64 ((matN (pickN (x.b.tdiv 5) 5) : Nat) : Int)), .eq (.pointer (some ⟨b0, 3, none⟩)), .eq (.int .i64 x.c), stMat (b0 + 2) (matN (pickN (x.b.tdiv 5) 5)) (handBytes (matN (pickN (x.b.tdiv 5) 5)) x.c), .eq (.pointer (some ⟨b0, 0, none⟩)), .eq (.int .i64 x.kind), .eq (.int .i64 (pick x.kind 6)), .eq (.int .i64 (1 + pick x.kind 6)), stObj (b0 + 2) (matN (pickN (x.b.tdiv 5) 5)) (objInit x), stNew (b0 + 2)] (by kernel_rfl) (by kernel_rfl) (by kernel_rfl) (by kernel_rfl) ?_ ?_
  · as_aux_lemma =>
      refine each_5 ?_ ?_ ?_ ?_ ?_ (each_5 ?_ ?_ ?_ ?_ ?_ (each_5 ?_ ?_ ?_ ?_ ?_ (each_5 ?_ ?_ ?_ ?_ ?_ (each_5 ?_ ?_ ?_ ?_ ?_ (each_5 ?_ ?_ ?_ ?_ ?_ (each_c ?_ (each_c ?_ (each_c ?_ (each_c ?_ (each_n))))))))))
      · intro w1 hg Ar seen
        have s2 := seen.sl 2 (.pointer (some ⟨b0, 0, none⟩))
        refine does_plain rfl fun K Q' hK => ?_
        go_simp; exact hK _ _ (Grow.refl _) rfl
      · intro w1 hg Ar seen
        have e0 := seen.de 0 16
        refine does_plain rfl fun K Q' hK => ?_
        have hc := cell_of_block (j := 1) ((hg.block _ (block_lt H1.out)).trans H1.out) rfl
        go_simp; exact hK _ _ (Grow.refl _) rfl
      · intro w1 hg Ar seen
        have e1 := seen.de 1 17
        refine does_plain rfl fun K Q' hK => ?_
        go_simp
        refine (handId_any x.a _).mono ?_
        rintro e u ⟨rfl, rfl⟩
        exact hK _ _ (Grow.refl _) rfl
      · intro w1 hg Ar seen
        refine does_plain rfl fun K Q' hK => ?_
        refine wp_build_obj _ _ rfl #[(0, .int .i64 2), (1, .int .i64 2), (2, .int .i64 3), (3, .int .i64 4), (4, .int .i64 7)] (by simp [Act.eval]) _ (by show Eq _ (Result.ok (Value.agg (intsA typL)) _); kernel_rfl) ?_
        exact hK _ _ (Grow.refl _) rfl
      · intro w1 hg Ar seen
        have s2 := seen.sl 2 (.pointer (some ⟨b0, 0, none⟩))
        refine does_plain rfl fun K Q' hK => ?_
        go_simp; exact hK _ _ (Grow.refl _) rfl
      · intro w1 hg Ar seen
        have e4 := seen.de 4 20
        refine does_plain rfl fun K Q' hK => ?_
        have hc := cell_of_block (j := 2) ((hg.block _ (block_lt H1.out)).trans H1.out) rfl
        go_simp; exact hK _ _ (Grow.refl _) rfl
      · intro w1 hg Ar seen
        have e5 := seen.de 5 21
        refine does_plain rfl fun K Q' hK => ?_
        go_simp
        refine (pick_any (x.b) 5 _ (by omega) (by omega)).mono ?_
        rintro e u ⟨rfl, rfl⟩
        exact hK _ _ (Grow.refl _) rfl
      · intro w1 hg Ar seen
        have e3 := seen.de 3 19
        have e6 := seen.de 6 22
        refine does_plain rfl fun K Q' hK => ?_
        refine wp_index_row _ _ rfl Tryd.underlying97 sizeInt Tryd.underlying3 rfl (intsA typL) (by simp [Act.eval, e3]) _ (by simp [Act.eval, e6]) (pickN x.b 5) (pickN_eq _ _ (by omega)) _ (pickN_lt _ 5 (by omega)) (intsA_get typL _ (pickN_lt _ 5 (by omega))) ?_
        exact hK _ _ (Grow.refl _) rfl
      · intro w1 hg Ar seen
        refine does_plain rfl fun K Q' hK => ?_
        refine wp_build_obj _ _ rfl #[(0, .int .i64 3), (1, .int .i64 3), (2, .int .i64 0), (3, .int .i64 4)] (by simp [Act.eval]) _ (by show Eq _ (Result.ok (Value.agg (intsA algL)) _); kernel_rfl) ?_
        exact hK _ _ (Grow.refl _) rfl
      · intro w1 hg Ar seen
        have s2 := seen.sl 2 (.pointer (some ⟨b0, 0, none⟩))
        refine does_plain rfl fun K Q' hK => ?_
        go_simp; exact hK _ _ (Grow.refl _) rfl
      · intro w1 hg Ar seen
        have e9 := seen.de 9 25
        refine does_plain rfl fun K Q' hK => ?_
        have hc := cell_of_block (j := 3) ((hg.block _ (block_lt H1.out)).trans H1.out) rfl
        go_simp; exact hK _ _ (Grow.refl _) rfl
      · intro w1 hg Ar seen
        have e10 := seen.de 10 26
        refine does_plain rfl fun K Q' hK => ?_
        go_simp
        refine (pick_any (x.c) 4 _ (by omega) (by omega)).mono ?_
        rintro e u ⟨rfl, rfl⟩
        exact hK _ _ (Grow.refl _) rfl
      · intro w1 hg Ar seen
        have e8 := seen.de 8 24
        have e11 := seen.de 11 27
        refine does_plain rfl fun K Q' hK => ?_
        refine wp_index_row _ _ rfl Tryd.underlying98 sizeInt Tryd.underlying3 rfl (intsA algL) (by simp [Act.eval, e8]) _ (by simp [Act.eval, e11]) (pickN x.c 4) (pickN_eq _ _ (by omega)) _ (pickN_lt _ 4 (by omega)) (intsA_get algL _ (pickN_lt _ 4 (by omega))) ?_
        exact hK _ _ (Grow.refl _) rfl
      · intro w1 hg Ar seen
        refine does_plain rfl fun K Q' hK => ?_
        refine wp_build_obj _ _ rfl #[(0, .int .i64 396), (1, .int .i64 12), (2, .int .i64 4), (3, .int .i64 384), (4, .int .i64 0)] (by simp [Act.eval]) _ (by show Eq _ (Result.ok (Value.agg (intsA maskL)) _); kernel_rfl) ?_
        exact hK _ _ (Grow.refl _) rfl
      · intro w1 hg Ar seen
        have s2 := seen.sl 2 (.pointer (some ⟨b0, 0, none⟩))
        refine does_plain rfl fun K Q' hK => ?_
        go_simp; exact hK _ _ (Grow.refl _) rfl
      · intro w1 hg Ar seen
        have e14 := seen.de 14 30
        refine does_plain rfl fun K Q' hK => ?_
        have hc := cell_of_block (j := 1) ((hg.block _ (block_lt H1.out)).trans H1.out) rfl
        go_simp; exact hK _ _ (Grow.refl _) rfl
      · intro w1 hg Ar seen
        have e15 := seen.de 15 31
        refine does_plain rfl fun K Q' hK => ?_
        have hs : IntKind.i64.wrap (x.a.tdiv 12) = x.a.tdiv 12 := IntWalk.i64_in _ HSX.out
        go_simp; exact hK _ _ (Grow.refl _) rfl
      · intro w1 hg Ar seen
        have e16 := seen.de 16 32
        refine does_plain rfl fun K Q' hK => ?_
        go_simp
        refine (pick_any (x.a.tdiv 12) 5 _ (by omega) (by omega)).mono ?_
        rintro e u ⟨rfl, rfl⟩
        exact hK _ _ (Grow.refl _) rfl
      · intro w1 hg Ar seen
        have e13 := seen.de 13 29
        have e17 := seen.de 17 33
        refine does_plain rfl fun K Q' hK => ?_
        refine wp_index_row _ _ rfl Tryd.underlying97 sizeInt Tryd.underlying3 rfl (intsA maskL) (by simp [Act.eval, e13]) _ (by simp [Act.eval, e17]) (pickN (x.a.tdiv 12) 5) (pickN_eq _ _ (by omega)) _ (pickN_lt _ 5 (by omega)) (intsA_get maskL _ (pickN_lt _ 5 (by omega))) ?_
        exact hK _ _ (Grow.refl _) rfl
      · intro w1 hg Ar seen
        refine does_plain rfl fun K Q' hK => ?_
        refine wp_build_obj _ _ rfl #[(0, .int .i64 16), (1, .int .i64 16), (2, .int .i64 32), (3, .int .i64 0), (4, .int .i64 24)] (by simp [Act.eval]) _ (by show Eq _ (Result.ok (Value.agg (intsA [16, 16, 32, 0, 24])) _); kernel_rfl) ?_
        exact hK _ _ (Grow.refl _) rfl
      · intro w1 hg Ar seen
        have s2 := seen.sl 2 (.pointer (some ⟨b0, 0, none⟩))
        refine does_plain rfl fun K Q' hK => ?_
        go_simp; exact hK _ _ (Grow.refl _) rfl
      · intro w1 hg Ar seen
        have e20 := seen.de 20 36
        refine does_plain rfl fun K Q' hK => ?_
        have hc := cell_of_block (j := 2) ((hg.block _ (block_lt H1.out)).trans H1.out) rfl
        go_simp; exact hK _ _ (Grow.refl _) rfl
      · intro w1 hg Ar seen
        have e21 := seen.de 21 37
        refine does_plain rfl fun K Q' hK => ?_
        have hs : IntKind.i64.wrap (x.b.tdiv 5) = x.b.tdiv 5 := IntWalk.i64_in _ HSY.out
        go_simp; exact hK _ _ (Grow.refl _) rfl
      · intro w1 hg Ar seen
        have e22 := seen.de 22 38
        refine does_plain rfl fun K Q' hK => ?_
        go_simp
        refine (pick_any (x.b.tdiv 5) 5 _ (by omega) (by omega)).mono ?_
        rintro e u ⟨rfl, rfl⟩
        exact hK _ _ (Grow.refl _) rfl
      · intro w1 hg Ar seen
        have e19 := seen.de 19 35
        have e23 := seen.de 23 39
        refine does_plain rfl fun K Q' hK => ?_
        refine wp_index_row _ _ rfl Tryd.underlying97 sizeInt Tryd.underlying3 rfl matA (by simp [Act.eval, e19]) _ (by simp [Act.eval, e23]) (pickN (x.b.tdiv 5) 5) (pickN_eq _ _ (by omega)) _ (pickN_lt _ 5 (by omega)) (matA_get _ (pickN_lt _ 5 (by omega))) ?_
        exact hK _ _ (Grow.refl _) rfl
      · intro w1 hg Ar seen
        have s2 := seen.sl 2 (.pointer (some ⟨b0, 0, none⟩))
        refine does_plain rfl fun K Q' hK => ?_
        go_simp; exact hK _ _ (Grow.refl _) rfl
      · intro w1 hg Ar seen
        have e25 := seen.de 25 41
        refine does_plain rfl fun K Q' hK => ?_
        have hc := cell_of_block (j := 3) ((hg.block _ (block_lt H1.out)).trans H1.out) rfl
        go_simp; exact hK _ _ (Grow.refl _) rfl
      · intro w1 hg Ar seen
        have e24 := seen.de 24 40
        have e26 := seen.de 26 42
        refine does_plain rfl fun K Q' hK => ?_
        have hle := matL_le (pickN (x.b.tdiv 5) 5)
        go_simp
        refine (bytes_any _ x.c _ (by omega)).mono ?_
        rintro e u ⟨a, c, rfl, ho, hb⟩
        exact hK _ _ hb ⟨a, c, rfl, ownsRow_base ho (fun k hk => by have := (ho.lt k hk).1; have := hg.size; have := H4.out; omega)⟩
      · intro w1 hg Ar seen
        have s2 := seen.sl 2 (.pointer (some ⟨b0, 0, none⟩))
        refine does_plain rfl fun K Q' hK => ?_
        go_simp; exact hK _ _ (Grow.refl _) rfl
      · intro w1 hg Ar seen
        have e28 := seen.de 28 44
        refine does_plain rfl fun K Q' hK => ?_
        have hc := cell_of_block (j := 0) ((hg.block _ (block_lt H1.out)).trans H1.out) rfl
        go_simp; exact hK _ _ (Grow.refl _) rfl
      · intro w1 hg Ar seen
        have e29 := seen.de 29 45
        refine does_plain rfl fun K Q' hK => ?_
        go_simp
        refine (pick_any (x.kind) 6 _ (by omega) (by omega)).mono ?_
        rintro e u ⟨rfl, rfl⟩
        exact hK _ _ (Grow.refl _) rfl
      · intro w1 hg Ar seen
        have e30 := seen.de 30 46
        refine does_plain rfl fun K Q' hK => ?_
        have hs : IntKind.i64.wrap (1 + pick x.kind 6) = 1 + pick x.kind 6 := IntWalk.i64_in _ (by have := pick_lo x.kind 6 (by omega); have := pick_hi x.kind 6 (by omega); omega)
        go_simp; exact hK _ _ (Grow.refl _) rfl
      · intro w1 hg Ar seen
        have e2 := seen.de 2 18
        have e7 := seen.de 7 23
        have e12 := seen.de 12 28
        have e18 := seen.de 18 34
        obtain ⟨v27, e27, h27⟩ := seen.dp 27 43
        have e31 := seen.de 31 47
        refine does_plain rfl fun K Q' hK => ?_
        obtain ⟨a, c, rfl, ho⟩ := h27
        refine wp_build_obj _ _ rfl #[(0, .string (handId x.a)), (1, .int .i64 (typL.getD (pickN x.b 5) 0)), (2, .int .i64 (algL.getD (pickN x.c 4) 0)), (3, .int .i64 128), (4, .int .i64 (maskL.getD (pickN (x.a.tdiv 12) 5) 0)), (5, .slice a (matN (pickN (x.b.tdiv 5) 5)) c), (6, .int .i64 (1 + pick x.kind 6))] (by simp [Act.eval, e2, e7, e12, e18, e27, e31]) _ (obj_build _ _ _ _ _ _ _ _ (handBytes (matN (pickN (x.b.tdiv 5) 5)) x.c) _) ?_
        exact hK _ _ (Grow.refl _) ⟨a, c, rfl, ho⟩
      · intro w1 hg Ar seen
        refine does_plain rfl fun K Q' hK => ?_
        refine wp_alloc_obj 35 rfl _ oZeroO ?_
        exact hK _ _ ((Below.refl _ _).alloc (Nat.le_refl _) _) ⟨_, rfl, block_new _ _, by have := hg.size; have := H4.out; omega⟩
  intro w1 hg
  refine upon_w' (js := [0, 1, 2, 3, 4, 5, 6, 7, 8, 9, 10, 11, 12, 13, 14, 15, 16, 17, 18, 19, 20, 21, 22, 23, 24, 25, 26, 27, 28, 29, 30, 31, 32, 33]) (by rfl) ?_
  refine upon_e (some 16) (upon_e (some 17) (upon_e (some 18) (upon_e (some 19) (upon_e (some 20) (upon_e (some 21) (upon_e (some 22) (upon_e (some 23) (upon_e (some 24) (upon_e (some 25) (upon_e (some 26) (upon_e (some 27) (upon_e (some 28) (upon_e (some 29) (upon_e (some 30) (upon_e (some 31) (upon_e (some 32) (upon_e (some 33) (upon_e (some 34) (upon_e (some 35) (upon_e (some 36) (upon_e (some 37) (upon_e (some 38) (upon_e (some 39) (upon_e (some 40) (upon_e (some 41) (upon_e (some 42) (upon_v (some 43) fun v27 h27 => upon_e (some 44) (upon_e (some 45) (upon_e (some 46) (upon_e (some 47) (upon_v (some 48) fun v32 h32 => upon_v (some 5) fun v33 h33 => upon_n ?_)))))))))))))))))))))))))))))))
  obtain ⟨aM, cM, rfl, hoM⟩ := h32
  obtain ⟨b5, rfl, hb5, hlt5⟩ := h33
  clear h27
  go_simp
  have hmb : (Value.slice aM (matN (pickN (x.b.tdiv 5) 5)) cM).ownBlock ≠ some b5 := own_ne_block hoM hb5 (by decide)
  have h5b0 : b5 ≠ b0 ∧ b5 ≠ b0 + 1 := by omega
  have R1 := hid ((hg.block _ (block_lt H1.out)).trans H1.out)
  have R2 := hid ((hg.block _ (block_lt H2.out)).trans H2.out)
  have R3 := hid (H3.out.trans (Below.mono hg (by have := H4.out; omega)))
  have R5 := hid hb5; have RM := hid hoM; have RMB := hid hmb; have R50 := hid h5b0; have RL := hid hlt5
  clear hb5 hoM hmb h5b0 hlt5 H1 H2 H3 H4 hg HSX HSY
  go_upto_region 2 with (refine wpList_store_obj rfl 35 _ _ rfl b5 rfl _ rfl _ _ R5.out rfl (by rw [objCells_size]; exact oSizeO) (oc_one _ _) ?_; intro w2 hw2 hc2 hs2; have C5 := hid hw2; have CC := hid hc2; clear hw2 hc2 hs2)
  go_simp
  have HO : Hid (HObj w w2 x b0 b5 (objInit x) { zObjV with mat := ⟨aM, matN (pickN (x.b.tdiv 5) 5), cM⟩ }) :=
    ⟨(CC.out.block _ (block_lt R1.out) (by have := R50.out.1; simp; omega)).trans R1.out, (CC.out.block _ (block_lt R2.out) (by have := R50.out.2; simp; omega)).trans R2.out, C5.out,
      R3.out.trans (CC.out.below (fun k hk => by rw [List.mem_singleton.1 hk]; have := RL.out; omega) (by have := block_lt R5.out; have := RL.out; omega)), RL.out,
      CC.out.owns RM.out (fun k hk hm => RMB.out (by rw [hk, List.mem_singleton.1 hm])), RMB.out, World.ownsRow_nil _ _ _ _, World.ownsRow_nil _ _ _ _, World.ownsRow_nil _ _ _ _, rfl, matL_le _⟩
  clear R1 R2 R3 R5 RM RMB R50 RL C5 CC
  generalize ({ zObjV with mat := ⟨aM, matN (pickN (x.b.tdiv 5) 5), cM⟩ } : ObjV) = s0 at *
  go_cut [5] (fun s5 wx => s5 = .pointer (some ⟨b5, 0, none⟩) ∧ HObj w wx x b0 b5 ((objInit x).setDate 0 (true, pick x.c 20)) s0)
  case first =>
    have hc3 := cell_of_block (j := 3) HO.out.raw rfl
    go_wp2_with fail
    refine (pick_any x.c 20 _ (by omega) (by omega)).mono ?_
    rintro e u ⟨rfl, rfl⟩
    have hfz := HO.out.fz
    have c7 := HO.out.cell (j := 7) rfl
    have c8 := HO.out.cell (j := 8) rfl
    go_wp2_with fail
    go_meet
    exact ⟨rfl, HO.out.date 0 (by decide) true _⟩
  case rest =>
    obtain ⟨rfl, ho⟩ := hcut
    clear HO
    have HO := hid ho; clear ho
    have HLEN := hid (argSl_len HAL.out)
    have hnL : nL ≤ 140737488355328 := HLEN.out.2
    generalize hO0 : (objInit x).setDate 0 (true, pick x.c 20) = O0 at *
    have HO0 := hid hO0; clear hO0
    go_upto_block 0 with (fail)
    go_cut [6] (fun _ wx => ∃ s', HObj w wx x b0 b5 ((l.take 10).foldl objStep O0) s')
    case first =>
      go_wp2_with fail
      go_loopw [6] (fun y wr => ∃ (k : Nat) (s : ObjV), k ≤ nL ∧ k ≤ 10 ∧ y = .int .i64 k ∧ HObj w wr x b0 b5 ((l.take k).foldl objStep O0) s) (fun y _ => 10 - (intOf y).toNat)
      case atStart => exact ⟨0, s0, Nat.zero_le _, Nat.zero_le _, rfl, HO.out⟩
      case round =>
        clear HO
        obtain ⟨k, s, hk, hk10, rfl, ho⟩ := hrel
        have HO := hid ho; clear ho
        by_cases hlt : k < nL
        · by_cases hlt10 : k < 10
          · obtain ⟨bL, oL, y, hae, hy, hok, hd0, hd1, hd2, hd3⟩ := raw_get HAL.out hlt
            have hbel : Below w.heap.size w wr := by rw [HBE.out]; exact HO.out.bel
            have c0 := cell_later hbel hd0
            have c1 := cell_later hbel hd1
            have c2 := cell_later hbel hd2
            have c3 := cell_later hbel hd3
            have HE : Hid ((l.take (k + 1)).foldl objStep O0 = objStep ((l.take k).foldl objStep O0) y) := by
              show _ = _
              rw [List.take_add_one, hy]
              simp [List.foldl_append]
            have HN := hid (fold_len10 l O0 x k (by omega) HO0.out)
            generalize (l.take k).foldl objStep O0 = O at *
            subst hae
            have HOK := hid hok
            clear hy hd0 hd1 hd2 hd3 hbel hok
            go_upto_block 1 with (fail)
            go_cut [7] (fun _ wx => ∃ s', HObj w wx x b0 b5 (objStep O y) s')
            case first =>
              rename_i J1 K1 g1 g2
              exact obj_rd _ _ _ _ _ _ _ _ _ _ _ _ _ _ _ _ _ _ _ _ _ _ _ _ _ _ _ _ _ _ _ _ _ _ _ _ _ _ _ _ _ _ _ _ _ _ _ _ _ _ _ _ _ _ _ _ _ _ _ _ _ _ _ _ _ _ _ _ _ _ _ _ _ _ _ _ _ _ _ _ _ _ _ _ _ _ _ _ _ _ _ _ _ _ _ _ _ _ _ _ _ _ _ _ _ _ _ _ _ _ _ _ _ _ _ _ _ _ _ _ _ _ _ _ _ _ _ _ _ _ _ _ _ _ _ _ _ _ _ _ _ _ _ _ _ _ _ _ _ _ _ _ _ _ _ _ _ _ _ _ _ _ _ _ _ _ _ _ _ _ _ _ _ _ _ _ _ _ _ _ _ _ _ _ _ _ _ _ _ _ _ _ _ _ _ _ _ _ _ _ _ _ _ _ _ _ _ _ _ _ _ _ _ _ _ _ _ _ _ _ _ _ _ _ _ _ J1 K1 _ HO hlt hlt10 hnL HOK c0 c1 c2 c3 HN g1 g2
            case rest =>
              obtain ⟨s', ho⟩ := hcut
              have HO := hid ho; clear ho
              go_wp2_with fail
              go_roundw
              case rel =>
                have ho := HO.out
                rw [← HE.out] at ho
                first
                  | exact ⟨k + 1, s', by omega, by omega, by go_num, ho⟩
                  | ((repeat apply Exists.intro); exact ⟨⟨k + 1, s', by omega, by omega, by go_num, ho⟩, rfl⟩)
              case measure => simp [intOf]; omega
          · obtain rfl : k = 10 := by omega
            go_wp2_with fail
            go_meet
            exact ⟨s, HO.out⟩
        · obtain rfl : k = nL := by omega
          have HE : Hid (l.take 10 = l.take k) := by
            show _ = _
            rw [List.take_of_length_le (by rw [HLEN.out.1]; omega), List.take_of_length_le (by rw [HLEN.out.1]; exact Nat.le_refl _)]
          go_wp2_with fail
          go_meet
          rw [HE.out]
          exact ⟨s, HO.out⟩
    case rest =>
      obtain ⟨s, ho⟩ := hcut
      have HN := hid (fold_len10 l O0 x 10 (by omega) HO0.out)
      have HR : Hid (objRaw x l = { (l.take 10).foldl objStep O0 with links := ((l.take 10).foldl objStep O0).links.take 8 }) := by show _ = _; unfold objRaw; rw [HO0.out]
      clear HO
      have HO := hid ho; clear ho
      generalize (l.take 10).foldl objStep O0 = O at *
      have hN1 : s.names.n = O.names.length := by have := HO.out.names.1; simp at this; exact this.symm
      have hN2 : s.links.n = O.links.length := by have := HO.out.links.1; unfold linkCells at this; rw [flat_len] at this; omega
      have hN3 : s.custom.n = O.custom.length := by have := HO.out.custom.1; unfold custCells at this; rw [flat_len] at this; omega
      have HNS : Hid (s.names.n ≤ 10 ∧ s.links.n ≤ 10 ∧ s.custom.n ≤ 10) := by have := HN.out; show _ ∧ _; omega
      have HN2 := hid hN2
      clear hN1 hN2 hN3 HN
      have c30 := HO.out.cell (oc30 O s)
      have hfz := HO.out.fz
      have hs10 : s.links.n ≤ 10 := HNS.out.2.1
      by_cases h8 : s.links.n > 8
      · have hcap : 8 ≤ s.links.c := by have := (own_slice HO.out.links).1; omega
        have hsl := fun w => run_slice_front (P := Tryd.prog) 30 56 2 Tryd.underlying30 (fun w => by kernel_rfl) s.links.a s.links.n s.links.c 8 hcap w
        go_upto_region 43 with (fail)
        have HO2 : Hid (HObj w _ x b0 b5 { O with links := O.links.take 8 } { s with links := ⟨s.links.a, 8, s.links.c⟩ }) := HO.out.cut_links 8 (by omega)
        have HNS : Hid (s.names.n ≤ 10 ∧ 8 ≤ 10 ∧ s.custom.n ≤ 10) := ⟨HNS.out.1, by omega, HNS.out.2.2⟩
        clear c30 hfz hsl
        go_wp2_with (first | (refine wpList_load_row rfl 35 _ rfl b5 rfl _ _ _ _ HO2.out.obj Tryd.underlying35 rfl (by rw [objCells_size]; exact oSizeO) ?_) | (refine wpList_store_obj rfl 35 _ _ rfl (b0 + 1) rfl _ rfl _ _ HO2.out.res rfl (by rw [objCells_size]; exact oSizeO) (oc_one _ _) ?_; intro w6 hb6 hc6 hs6; have HB6 := hid hb6; have HC6 := hid hc6; clear hb6 hc6 hs6))
        refine bodyPost_ret (results_cell_row rfl _ _ (b0 + 1) _ _ _ _ rfl HB6.out Tryd.underlying35 rfl (by rw [objCells_size]; exact oSizeO)) rfl ?_
        rw [HR.out]
        exact ⟨_, rfl, HO2.out.done HNS.out.1 HNS.out.2.1 HNS.out.2.2 HC6.out⟩
      · have HL : Hid (O.links.take 8 = O.links) := by show _ = _; rw [List.take_of_length_le]; have := HN2.out; omega
        rw [HL.out] at HR
        go_upto_region 43 with (fail)
        have HO2 := HO
        clear c30 hfz
        go_wp2_with (first | (refine wpList_load_row rfl 35 _ rfl b5 rfl _ _ _ _ HO2.out.obj Tryd.underlying35 rfl (by rw [objCells_size]; exact oSizeO) ?_) | (refine wpList_store_obj rfl 35 _ _ rfl (b0 + 1) rfl _ rfl _ _ HO2.out.res rfl (by rw [objCells_size]; exact oSizeO) (oc_one _ _) ?_; intro w6 hb6 hc6 hs6; have HB6 := hid hb6; have HC6 := hid hc6; clear hb6 hc6 hs6))
        refine bodyPost_ret (results_cell_row rfl _ _ (b0 + 1) _ _ _ _ rfl HB6.out Tryd.underlying35 rfl (by rw [objCells_size]; exact oSizeO)) rfl ?_
        rw [HR.out]
        exact ⟨_, rfl, HO2.out.done HNS.out.1 HNS.out.2.1 HNS.out.2.2 HC6.out⟩
end
end Go.Proofs.YtdlkobmlnpijgaaDoor
