/- law10's known. -/
import Derived.Test.YtdlkobmlnpijgaaDoorObjRead
import Derived.Test.YtdlkobmlnpijgaaDoorObjSame
namespace Go.Proofs.YtdlkobmlnpijgaaDoor
open Go.RowKit
set_option linter.unusedVariables false
set_option linter.unusedSimpArgs false
set_option maxRecDepth 1000000
set_option maxHeartbeats 3200000
def knownO : ObjD := { id := ⟨#[49]⟩, typ := 2, mat := [107], st := 2 }
theorem knownO_right : rightO knownO = true := by kernel_rfl
theorem knownO_is : IsObj (layO knownO) knownO := ⟨knownO_right, rfl, rfl⟩
theorem buildK (a : Option Addr) (n c : Nat) (w : World) : (Instr.build 35 #[(0, .string ⟨#[49]⟩), (1, .int .i64 2), (6, .int .i64 2), (5, .slice a n c)]).run Tryd.prog w = .ok (.agg (objCells knownO { mat := ⟨a, n, c⟩ })) w := by kernel_rfl
theorem own_bytes_le {w : World} {B n : Nat} {e : TypeId} {a : Option Addr} {c : Nat} {l : List UInt8} (h : w.ownsRow B e 1 (.slice a n c) n (l.map B8)) : n = l.length := by have := h.1; simpa using this.symm
theorem own_one1 {w : World} {B g : Nat} {e : TypeId} {v : Value} (h : w.heap[g]? = some (.cells #[v] e (0, 0))) (hB : B ≤ g) : w.ownsRow B e 1 (.slice (some ⟨g, 0, none⟩) 1 1) 1 [v] :=
  ⟨rfl, .inr ⟨g, 1, #[v], rfl, hB, h, Nat.le_refl _, by unfold maxLen; decide, rfl, rfl⟩⟩
theorem wpList_load_on' {P : Program} {w : World} {ops : Array Oper} {rest : List Oper} {o : Oper} {a : Act} {Q : Exit → Act → World → Prop} (ty : TypeId) (x : Operand) (ho : o.op = .load ty x) (hgd : Region.wanted o (yielded ops a.tmps) = true)
    (g : Nat) (hx : a.eval x = .pointer (some ⟨g, 0, none⟩)) (t : TypeId) (cs : Array Value) (fr : Nat × Nat) (d : TypeDesc) (hg : w.heap[g]? = some (.cells cs t fr))
    (hu : P.underlying ty = some d) (hd : (match d with | .struct _ | .array _ _ => true | _ => false) = true) (hi : (P.info? ty).map (·.size) = some cs.size)
    (h : wpList P ops Q rest (a.put o.dst (.agg cs)) w) : wpList P ops Q (o :: rest) a w := wpList_load_on hgd ty x ho g hx t cs fr d hg hu hd hi h
theorem known10_any (w : World) (hT : UT w) : Calls Tryd.prog 12 #[] w fun e w' => e = .returned (.bool true) ∧ Below w.heap.size w w' := by
  have HT := hid hT
  clear hT
  have kc := fun (w : World) (C : Array Value) (n c : Nat) => Lib.run_convert_bytes_const (P := Tryd.prog) w 22 5 C n c Tryd.underlying22 Tryd.underlying5
  go_enter Tryd.func12, Tryd.ntmps12
  have hbk : Below w.heap.size w (w.alloc (.cells #[.int .u8 107] 5 (1, 2))) := (Below.refl _ _).alloc (Nat.le_refl _) _
  have hnew := block_new w (.cells #[.int .u8 107] 5 (1, 2))
  have hs1 : (w.alloc (.cells #[.int .u8 107] 5 (1, 2))).heap.size = w.heap.size + 1 := by simp
  go_upto_region 2 with (first | (refine wpList_build_obj rfl 35 _ rfl #[(0, .string ⟨#[49]⟩), (1, .int .i64 2), (6, .int .i64 2), (5, .slice (some ⟨w.heap.size, 0, none⟩) 1 1)] (by simp [Act.eval]) _ (buildK _ _ _ _) ?_) | (refine wpList_alloc_obj rfl 35 rfl _ oZeroO ?_) | (refine wpList_store_obj rfl 35 _ _ rfl _ rfl _ rfl _ _ (block_new _ _) rfl (by rw [objCells_size]; exact oSizeO) (oc_one _ _) ?_; intro w6 hb6 hc6 hs6; have HB6 := hid hb6; have HC6 := hid hc6; clear hb6 hc6 hs6))
  generalize w.alloc (.cells #[.int .u8 107] 5 (1, 2)) = W1 at *
  have hb1 : Below W1.heap.size W1 w6 := ((Below.refl _ _).alloc (Nat.le_refl _) _).trans (HC6.out.below (fun k hk => by rw [List.mem_singleton.1 hk]; exact Nat.le_refl _) (by simp))
  have hsl : SlR W1 ⟨some ⟨w.heap.size, 0, none⟩, 1, 1⟩ 1 ([(107 : UInt8)].map B8) :=
    ⟨⟨rfl, fun j hj => ⟨w.heap.size, 0, rfl, fun i u hu => cell_of_block hnew (by
      match i, hu with
      | 0, hu => exact hu
      | i + 1, hu => simp at hu)⟩⟩, (fun hx => by cases hx), (by show 1 ≤ 140737488355328; decide), (fun k hk => by simp [Sl.blk] at hk; rw [hk, hs1]; omega), Nat.le_refl _⟩
  have hm : ObjM w6 knownO { mat := ⟨some ⟨w.heap.size, 0, none⟩, 1, 1⟩ } := by
    have hz := ObjM.zero w6
    exact ⟨hsl.below hb1, hz.names, hz.links, hz.custom, rfl⟩
  have HT6 := hid (HT.out.below (hbk.trans (hb1.mono (by omega))))
  have HM := hid hm
  have HB := hid (hbk.trans (hb1.mono (by omega)))
  have HSZ : Hid (w.heap.size ≤ W1.heap.size) := by show _ ≤ _; omega
  clear hbk hnew hs1 hb1 hsl hm HC6 HT kc
  generalize ({ mat := ⟨some ⟨w.heap.size, 0, none⟩, 1, 1⟩ } : ObjV) = s at *
  generalize W1.heap.size = ob at *
  go_wp2_with (refine wpList_load_row rfl 35 _ rfl ob rfl _ _ _ _ HB6.out Tryd.underlying35 rfl (by rw [objCells_size]; exact oSizeO) ?_)
  refine (lay10_any knownO s w6 HM.out HT6.out).mono ?_
  rintro e w7 ⟨hb7, hcase⟩
  rcases hcase with ⟨hr, -⟩ | ⟨-, a, n, c, rfl, ho⟩
  · rw [knownO_right] at hr; cases hr
  have HN : Hid (n ≤ 140737488355328) := by
    have h1 := ho.1
    have hz := layO_small knownO_right rfl
    simp at h1
    show _ ≤ _
    omega
  have HRB := hid (RdB.of_own ho); have HNO := hid (own_slice ho).2.1
  have HT7 := hid (HT6.out.below hb7)
  have HM7 := hid (HM.out.below hb7)
  have HB7 := hid (HB.out.trans (hb7.mono (by have := block_lt HB6.out; have := HSZ.out; omega)))
  have BX7 := hid ((hb7.block _ (block_lt HB6.out)).trans HB6.out)
  clear hb7 ho HT6 HM HB HB6
  go_wp2_with fail
  refine (read10_any a n c (layO knownO) w7 HRB.out HNO.out HN.out HT7.out).mono ?_
  rintro e w8 ⟨hb8, P, s', hm8, hf8, hc8⟩
  obtain ⟨hi, rfl⟩ : IsObj (layO knownO) P ∧ e = .returned (.tuple #[.agg (objCells P s'), .int .i64 0]) := by
    rcases hc8 with h | ⟨hn, -⟩
    · exact h
    · exact (hn knownO knownO_is).elim
  obtain rfl := isObj_one hi knownO_is
  have HM8 := hid hm8
  have HM9 := hid (HM7.out.below hb8)
  have HB8 := hid (HB7.out.trans (hb8.mono HB7.out.size))
  have BX8 := hid ((hb8.block _ (block_lt BX7.out)).trans BX7.out)
  clear hb8 hf8 hm8 hi HM7 HB7 BX7 HT7 HRB HNO HN
  go_upto_region 4 with (first | (refine wpList_alloc_obj rfl 35 rfl _ oZeroO ?_) | (refine wpList_store_obj rfl 35 _ _ rfl _ rfl _ rfl _ _ (block_new _ _) rfl (by rw [objCells_size]; exact oSizeO) (oc_one _ _) ?_; intro w9 hb9 hc9 hs9; have HBB := hid hb9; have HCC := hid hc9; clear hb9 hc9 hs9))
  have hb9 : Below w8.heap.size w8 w9 := ((Below.refl _ _).alloc (Nat.le_refl _) _).trans (HCC.out.below (fun k hk => by rw [List.mem_singleton.1 hk]; exact Nat.le_refl _) (by simp))
  have HMA := hid (HM9.out.below hb9); have HMB := hid (HM8.out.below hb9)
  have HB9 := hid (HB8.out.trans (hb9.mono HB8.out.size))
  have BX9 := hid ((hb9.block _ (block_lt BX8.out)).trans BX8.out)
  clear hb9 HM9 HM8 HB8 BX8 HCC
  generalize w8.heap.size = pb at *
  have HSM : Hid (sameB knownO knownO = true) := (sameB_iff rfl rfl).2 rfl
  generalize hkn : knownO = KO at *
  have d0 := cell_of_block (j := 0) HBB.out (oc0 KO s')
  have d6 := cell_of_block (j := 6) HBB.out (oc6 KO s')
  rw [show KO.id = ⟨#[49]⟩ from by rw [← hkn]; rfl] at d0
  rw [show KO.st = 2 from by rw [← hkn]; rfl] at d6
  clear hkn
  go_wp2_with (first | (refine wpList_load_on' 35 _ rfl (by kernel_rfl) ob rfl _ _ _ _ BX9.out Tryd.underlying35 rfl (by rw [objCells_size]; exact oSizeO) ?_) | (refine wpList_load_on' 35 _ rfl (by kernel_rfl) pb rfl _ _ _ _ HBB.out Tryd.underlying35 rfl (by rw [objCells_size]; exact oSizeO) ?_))
  refine (same10_any KO KO s s' w9 HMA.out HMB.out).mono ?_
  rintro e w10 ⟨rfl, hb10⟩
  dsimp only
  rw [HSM.out]
  have e0 := cell_later hb10 d0
  have e6 := cell_later hb10 d6
  have HB10 := hid (HB9.out.trans (hb10.mono HB9.out.size))
  clear hb10 d0 d6
  go_wp2_with fail
  go_ret
  exact ⟨rfl, HB10.out⟩
end Go.Proofs.YtdlkobmlnpijgaaDoor
