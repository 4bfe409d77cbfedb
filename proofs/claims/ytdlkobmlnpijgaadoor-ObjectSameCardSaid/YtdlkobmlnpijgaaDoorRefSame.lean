/- The reference's Same, decided. -/
import Derived.Test.YtdlkobmlnpijgaaDoorObjSame
import Derived.Test.YtdlkobmlnpijgaaDoorRegionP
import Derived.Deep.DeepCutAuto
import Derived.Deep.CutBlock
namespace Go.Proofs.YtdlkobmlnpijgaaDoor
open Go.RowKit
set_option linter.unusedVariables false
set_option linter.unusedSimpArgs false
set_option maxRecDepth 1000000
set_option maxHeartbeats 12800000
def orS (O Q : ObjD) (s t : ObjV) (m1 m2 : ByteArray) (dq lq : Bool) : Bool := (((((((((((((((!(O.id.toList == Q.id.toList)) || (O.typ != Q.typ)) || (O.alg != Q.alg)) || (O.len != Q.len)) || (O.mask != Q.mask)) || (!(m1.toList == m2.toList))) || (O.st != Q.st)) || (!dq)) || (O.reason != Q.reason)) || (!(O.msg.toList == Q.msg.toList))) || (!lq)) || (O.arch != Q.arch)) || ((s.names.n : Int) != (t.names.n : Int))) || ((s.links.n : Int) != (t.links.n : Int))) || ((s.custom.n : Int) != (t.custom.n : Int)))
/-- All but the lists. -/
def partS (O Q : ObjD) : Bool :=
  decide (O.id = Q.id) && (O.typ == Q.typ && (O.alg == Q.alg && (O.len == Q.len && (O.mask == Q.mask && (decide (O.mat = Q.mat) && (O.st == Q.st && (datesB O Q && (O.reason == Q.reason && (decide (O.msg = Q.msg) && (limB4 O Q && O.arch == Q.arch))))))))))
theorem str_dec (x y : ByteArray) : (x.toList == y.toList) = decide (x = y) := by
  by_cases h : x = y
  · subst h; simp
  · rw [bytes_ne h]; simp [h]
theorem mat_dec (l r : List UInt8) : ((⟨l.toArray⟩ : ByteArray).toList == (⟨r.toArray⟩ : ByteArray).toList) = decide (l = r) := by
  rw [str_dec]
  by_cases h : l = r
  · subst h; simp
  · have : (⟨l.toArray⟩ : ByteArray) ≠ ⟨r.toArray⟩ := fun e => h (by have := congrArg (fun b : ByteArray => b.data.toList) e; simpa using this)
    simp [h, this]
theorem len_bne (a c : Nat) : ((a : Int) != (c : Int)) = !(decide (a = c)) := by
  by_cases h : a = c
  · subst h; simp
  · have h2 : (a : Int) ≠ (c : Int) := by omega
    simp [h, h2]
theorem orS_eq (O Q : ObjD) (s t : ObjV) (h1 : O.names.length = s.names.n) (h2 : Q.names.length = t.names.n) (h3 : O.links.length = s.links.n) (h4 : Q.links.length = t.links.n) (h5 : O.custom.length = s.custom.n) (h6 : Q.custom.length = t.custom.n) :
    orS O Q s t ⟨O.mat.toArray⟩ ⟨Q.mat.toArray⟩ (datesB O Q) (limB4 O Q) = !(partS O Q && (decide (O.names.length = Q.names.length) && (decide (O.links.length = Q.links.length) && decide (O.custom.length = Q.custom.length)))) := by
  unfold orS partS
  rw [mat_dec O.mat Q.mat, str_dec O.id Q.id, str_dec O.msg Q.msg, ← h1, ← h2, ← h3, ← h4, ← h5, ← h6]
  rw [len_bne, len_bne, len_bne]
  simp only [Bool.not_and, Bool.or_assoc, bne]
theorem sameB_part {O Q : ObjD} (h : partS O Q = true) : sameB O Q = (decide (O.names = Q.names) && (decide (O.links = Q.links) && decide (O.custom = Q.custom))) := by
  unfold partS at h
  simp only [Bool.and_eq_true] at h
  obtain ⟨g1, g2, g3, g4, g5, g6, g7, g8, g9, g10, g11, g12⟩ := h
  unfold sameB
  rw [g1, g2, g3, g4, g5, g6, g7, g8, g9, g10, g11, g12]
  simp
theorem sameB_not {O Q : ObjD} (h : (partS O Q && (decide (O.names.length = Q.names.length) && (decide (O.links.length = Q.links.length) && decide (O.custom.length = Q.custom.length)))) = false) : sameB O Q = false := by
  cases hs : sameB O Q with
  | false => rfl
  | true =>
    unfold sameB at hs
    simp only [Bool.and_eq_true, decide_eq_true_eq] at hs
    obtain ⟨g1, g2, g3, g4, g5, g6, g7, g8, g9, g10, h1, h2, h3, g11, g12⟩ := hs
    have : partS O Q = true := by
      unfold partS
      simp only [Bool.and_eq_true, decide_eq_true_eq]
      exact ⟨g1, g2, g3, g4, g5, g6, g7, g8, g9, g10, g11, g12⟩
    rw [this, h1, h2, h3] at h
    simp at h
theorem Two.drop {T : TypeId} {O Q : ObjD} {s t : ObjV} {w W : World} {b : Nat} (h : Two T O Q s t w W b) : Below b w W := h.bel
theorem take_eq {α : Type} {l r : List α} {k : Nat} {x y : α} (h : l.take k = r.take k) (hx : l[k]? = some x) (hy : r[k]? = some y) (e : x = y) : l.take (k + 1) = r.take (k + 1) := by
  subst e
  rw [List.take_add_one, List.take_add_one, h, hx, hy]
theorem get_ne {α : Type} {l r : List α} {k : Nat} {x y : α} (hx : l[k]? = some x) (hy : r[k]? = some y) (e : x ≠ y) : l ≠ r := fun h => by
  rw [h, hy] at hx
  exact e (Option.some.inj hx).symm
theorem neQD {d1 d2 : Array Value} {q : Bool} (h : ∀ w, (Op.equalIn 10000 28 (.agg d1) (.agg d2)).run Tryd.prog w = .ok q w) (w : World) : (binOp .neq 28 (.agg d1) (.agg d2)).run Tryd.prog w = .ok (.bool (!q)) w := by
  rw [run_neq_struct, h]; rfl
theorem neQM {d1 d2 : Array Value} {q : Bool} (h : ∀ w, (Op.equalIn 10000 33 (.agg d1) (.agg d2)).run Tryd.prog w = .ok q w) (w : World) : (binOp .neq 33 (.agg d1) (.agg d2)).run Tryd.prog w = .ok (.bool (!q)) w := by
  rw [run_neq_struct, h]; rfl
theorem Grow.ofRange {w W : World} {b o : Nat} {l : List Value} (h : w.rangeAt b o l) (hg : Grow w W) : W.rangeAt b o l := fun j v hv => cell_later hg (h j v hv)
theorem rsame10_any (O Q : ObjD) (s t : ObjV) (w : World) (h : ObjM w O s) (h2 : ObjM w Q t) :
    Calls Tryd.prog 23 #[.agg (objCells O s), .agg (objCells Q t)] w fun e w' => e = .returned (.bool (sameB O Q)) ∧ Below w.heap.size w w' := by
  generalize hbe : w.heap.size = b
  have HBE := hid hbe; clear hbe
  have hb1 : ((w.alloc (.cells (objCells O s) 35)).alloc (.cells (objCells Q t) 35)).heap[w.heap.size]? = some (.cells (objCells O s) 35 (0, 0)) := heap_alloc2_old _ _ _
  have hb2 : ((w.alloc (.cells (objCells O s) 35)).alloc (.cells (objCells Q t) 35)).heap[w.heap.size + 1]? = some (.cells (objCells Q t) 35 (0, 0)) := heap_alloc2_new _ _ _
  have hb3 : Below w.heap.size w ((w.alloc (.cells (objCells O s) 35)).alloc (.cells (objCells Q t) 35)) := ((Below.refl _ _).alloc (Nat.le_refl _) _).alloc (by simp) _
  have hm := h.below hb3
  have hm2 := h2.below hb3
  rw [HBE.out] at hb1 hb2 hb3
  have S : Hid (Two 35 O Q s t w ((w.alloc (.cells (objCells O s) 35)).alloc (.cells (objCells Q t) 35)) b) := ⟨hb1, hb2, hm, hm2, hb3⟩
  clear hb1 hb2 hb3 hm hm2 h h2
  have NSO : Hid (O.names.length = s.names.n) := by have := S.out.m1.names.len1; show _ = _; simpa using this.symm
  have NSQ : Hid (Q.names.length = t.names.n) := by have := S.out.m2.names.len1; show _ = _; simpa using this.symm
  have NLO : Hid (O.links.length = s.links.n) := by have := S.out.m1.links.len2; show _ = _; unfold linkCells at this; rw [flat_len] at this; omega
  have NLQ : Hid (Q.links.length = t.links.n) := by have := S.out.m2.links.len2; show _ = _; unfold linkCells at this; rw [flat_len] at this; omega
  have NCO : Hid (O.custom.length = s.custom.n) := by have := S.out.m1.custom.len2; show _ = _; unfold custCells at this; rw [flat_len] at this; omega
  have NCQ : Hid (Q.custom.length = t.custom.n) := by have := S.out.m2.custom.len2; show _ = _; unfold custCells at this; rw [flat_len] at this; omega
  go_enter Tryd.func23, Tryd.ntmps23
  go_upto_region 1 with (fail)
  simp only [List.append_eq, List.cons_append, List.nil_append]
  rw [HBE.out]
  generalize (w.alloc (.cells (objCells O s) 35)).alloc (.cells (objCells Q t) 35) = W at *
  go_cut [118] (fun x wx => ∃ v : Bool, x = .bool v ∧ (v = true → sameB O Q = false) ∧ (v = false → (partS O Q && (decide (O.names.length = Q.names.length) && (decide (O.links.length = Q.links.length) && decide (O.custom.length = Q.custom.length)))) = true) ∧ Two 35 O Q s t w wx b)
  case first =>
    have HOR : Hid (orS O Q s t ⟨O.mat.toArray⟩ ⟨Q.mat.toArray⟩ (datesB O Q) (limB4 O Q) = _) := orS_eq O Q s t NSO.out NSQ.out NLO.out NLQ.out NCO.out NCQ.out
    have HAM : Hid (∀ w1, Grow W w1 → (convert 22 9 (.slice s.mat.a s.mat.n s.mat.c)).run Tryd.prog w1 = .ok (.string ⟨O.mat.toArray⟩) w1) := fun w1 hg => (S.out.m1.mat.below hg).str (P := Tryd.prog) 22 9 5 Tryd.underlying22 Tryd.underlying5 Tryd.underlying9
    have HBM : Hid (∀ w1, Grow W w1 → (convert 22 9 (.slice t.mat.a t.mat.n t.mat.c)).run Tryd.prog w1 = .ok (.string ⟨Q.mat.toArray⟩) w1) := fun w1 hg => (S.out.m2.mat.below hg).str (P := Tryd.prog) 22 9 5 Tryd.underlying22 Tryd.underlying5 Tryd.underlying9
    have HDQ : Hid (∀ w, (binOp .neq 28 (.agg (dateL O).toArray) (.agg (dateL Q).toArray)).run Tryd.prog w = .ok (.bool (!(datesB O Q))) w) := neQD (fun w => eqDatesB O Q w)
    have HLQ : Hid (∀ w, (binOp .neq 33 (.agg (limL O).toArray) (.agg (limL Q).toArray)).run Tryd.prog w = .ok (.bool (!(limB4 O Q))) w) := neQM (fun w => eqLimB O Q w)
    have HAD : Hid (W.rangeAt b 7 (dateL O)) := date_range S.out.one
    have HBD : Hid (W.rangeAt (b + 1) 7 (dateL Q)) := date_range S.out.two
    have HAL : Hid (W.rangeAt b 32 (limL O)) := lim_range S.out.one
    have HBL : Hid (W.rangeAt (b + 1) 32 (limL Q)) := lim_range S.out.two
    have HD1S : Hid ((Tryd.prog.info? 28).map (·.size) = some (dateL O).length) := oSizeD
    have HD2S : Hid ((Tryd.prog.info? 28).map (·.size) = some (dateL Q).length) := oSizeD
    have HL1S : Hid ((Tryd.prog.info? 33).map (·.size) = some (limL O).length) := oSizeL
    have HL2S : Hid ((Tryd.prog.info? 33).map (·.size) = some (limL Q).length) := oSizeL
    generalize (⟨O.mat.toArray⟩ : ByteArray) = m1 at *
    generalize (⟨Q.mat.toArray⟩ : ByteArray) = m2 at *
    generalize datesB O Q = dq at *
    generalize limB4 O Q = lq at *
    generalize dateL O = d1 at *
    generalize dateL Q = d2 at *
    generalize limL O = l1 at *
    generalize limL Q = l2 at *
    rename_i J1 K1 HJ1 HK1
    refine wp_region_eachP 111 [.eq (.pointer (some ⟨b, 0, none⟩)), .eq (.string O.id), .eq (.pointer (some ⟨b + 1, 0, none⟩)), .eq (.string Q.id), .eq (.bool (!(O.id.toList == Q.id.toList))), .eq (.bool (!(O.id.toList == Q.id.toList))), .eq (if (!(!(O.id.toList == Q.id.toList))) = true then .pointer (some ⟨b, 1, none⟩) else undef), .eq (if (!(!(O.id.toList == Q.id.toList))) = true then .int .i64 O.typ else undef), .eq (if (!(!(O.id.toList == Q.id.toList))) = true then .pointer (some ⟨b + 1, 1, none⟩) else undef), .eq (if (!(!(O.id.toList == Q.id.toList))) = true then .int .i64 Q.typ else undef), .eq (if (!(!(O.id.toList == Q.id.toList))) = true then .bool (O.typ != Q.typ) else undef), .eq (.bool ((!(O.id.toList == Q.id.toList)) || (O.typ != Q.typ))), .eq (.bool ((!(O.id.toList == Q.id.toList)) || (O.typ != Q.typ))), .eq (if (!((!(O.id.toList == Q.id.toList)) || (O.typ != Q.typ))) = true then .pointer (some ⟨b, 2, none⟩) else undef), .eq (if (!((!(O.id.toList == Q.id.toList)) || (O.typ != Q.typ))) = true then .int .i64 O.alg else undef), .eq (if (!((!(O.id.toList == Q.id.toList)) || (O.typ != Q.typ))) = true then .pointer (some ⟨b + 1, 2, none⟩) else undef), .eq (if (!((!(O.id.toList == Q.id.toList)) || (O.typ != Q.typ))) = true then .int .i64 Q.alg else undef), .eq (if (!((!(O.id.toList == Q.id.toList)) || (O.typ != Q.typ))) = true then .bool (O.alg != Q.alg) else undef), .eq (.bool (((!(O.id.toList == Q.id.toList)) || (O.typ != Q.typ)) || (O.alg != Q.alg))), .eq (.bool (((!(O.id.toList == Q.id.toList)) || (O.typ != Q.typ)) || (O.alg != Q.alg))), .eq (if (!(((!(O.id.toList == Q.id.toList)) || (O.typ != Q.typ)) || (O.alg != Q.alg))) = true then .pointer (some ⟨b, 3, none⟩) else undef), .eq (if (!(((!(O.id.toList == Q.id.toList)) || (O.typ != Q.typ)) || (O.alg != Q.alg))) = true then .int .i64 O.len else undef), .eq (if (!(((!(O.id.toList == Q.id.toList)) || (O.typ != Q.typ)) || (O.alg != Q.alg))) = true then .pointer (some ⟨b + 1, 3, none⟩) else undef), .eq (if (!(((!(O.id.toList == Q.id.toList)) || (O.typ != Q.typ)) || (O.alg != Q.alg))) = true then .int .i64 Q.len else undef), .eq (if (!(((!(O.id.toList == Q.id.toList)) || (O.typ != Q.typ)) || (O.alg != Q.alg))) = true then .bool (O.len != Q.len) else undef), .eq (.bool ((((!(O.id.toList == Q.id.toList)) || (O.typ != Q.typ)) || (O.alg != Q.alg)) || (O.len != Q.len))), .eq (.bool ((((!(O.id.toList == Q.id.toList)) || (O.typ != Q.typ)) || (O.alg != Q.alg)) || (O.len != Q.len))), .eq (if (!((((!(O.id.toList == Q.id.toList)) || (O.typ != Q.typ)) || (O.alg != Q.alg)) || (O.len != Q.len))) = true then .pointer (some ⟨b, 4, none⟩) else undef), .eq (if (!((((!(O.id.toList == Q.id.toList)) || (O.typ != Q.typ)) || (O.alg != Q.alg)) || (O.len != Q.len))) = true then .int .i64 O.mask else undef), .eq (if (!((((!(O.id.toList == Q.id.toList)) || (O.typ != Q.typ)) || (O.alg != Q.alg)) || (O.len != Q.len))) = true then .pointer (some ⟨b + 1, 4, none⟩) else undef), .eq (if (!((((!(O.id.toList == Q.id.toList)) || (O.typ != Q.typ)) || (O.alg != Q.alg)) || (O.len != Q.len))) = true then .int .i64 Q.mask else undef), .eq (if (!((((!(O.id.toList == Q.id.toList)) || (O.typ != Q.typ)) || (O.alg != Q.alg)) || (O.len != Q.len))) = true then .bool (O.mask != Q.mask) else undef), .eq (.bool (((((!(O.id.toList == Q.id.toList)) || (O.typ != Q.typ)) || (O.alg != Q.alg)) || (O.len != Q.len)) || (O.mask != Q.mask))), .eq (.bool (((((!(O.id.toList == Q.id.toList)) || (O.typ != Q.typ)) || (O.alg != Q.alg)) || (O.len != Q.len)) || (O.mask != Q.mask))), .eq (if (!(((((!(O.id.toList == Q.id.toList)) || (O.typ != Q.typ)) || (O.alg != Q.alg)) || (O.len != Q.len)) || (O.mask != Q.mask))) = true then .pointer (some ⟨b, 5, none⟩) else undef), .eq (if (!(((((!(O.id.toList == Q.id.toList)) || (O.typ != Q.typ)) || (O.alg != Q.alg)) || (O.len != Q.len)) || (O.mask != Q.mask))) = true then .slice s.mat.a s.mat.n s.mat.c else undef), .eq (if (!(((((!(O.id.toList == Q.id.toList)) || (O.typ != Q.typ)) || (O.alg != Q.alg)) || (O.len != Q.len)) || (O.mask != Q.mask))) = true then .string m1 else undef), .eq (if (!(((((!(O.id.toList == Q.id.toList)) || (O.typ != Q.typ)) || (O.alg != Q.alg)) || (O.len != Q.len)) || (O.mask != Q.mask))) = true then .pointer (some ⟨b + 1, 5, none⟩) else undef), .eq (if (!(((((!(O.id.toList == Q.id.toList)) || (O.typ != Q.typ)) || (O.alg != Q.alg)) || (O.len != Q.len)) || (O.mask != Q.mask))) = true then .slice t.mat.a t.mat.n t.mat.c else undef), .eq (if (!(((((!(O.id.toList == Q.id.toList)) || (O.typ != Q.typ)) || (O.alg != Q.alg)) || (O.len != Q.len)) || (O.mask != Q.mask))) = true then .string m2 else undef), .eq (if (!(((((!(O.id.toList == Q.id.toList)) || (O.typ != Q.typ)) || (O.alg != Q.alg)) || (O.len != Q.len)) || (O.mask != Q.mask))) = true then .bool (!(m1.toList == m2.toList)) else undef), .eq (.bool ((((((!(O.id.toList == Q.id.toList)) || (O.typ != Q.typ)) || (O.alg != Q.alg)) || (O.len != Q.len)) || (O.mask != Q.mask)) || (!(m1.toList == m2.toList)))), .eq (.bool ((((((!(O.id.toList == Q.id.toList)) || (O.typ != Q.typ)) || (O.alg != Q.alg)) || (O.len != Q.len)) || (O.mask != Q.mask)) || (!(m1.toList == m2.toList)))), .eq (if (!((((((!(O.id.toList == Q.id.toList)) || (O.typ != Q.typ)) || (O.alg != Q.alg)) || (O.len != Q.len)) || (O.mask != Q.mask)) || (!(m1.toList == m2.toList)))) = true then .pointer (some ⟨b, 6, none⟩) else undef), .eq (if (!((((((!(O.id.toList == Q.id.toList)) || (O.typ != Q.typ)) || (O.alg != Q.alg)) || (O.len != Q.len)) || (O.mask != Q.mask)) || (!(m1.toList == m2.toList)))) = true then .int .i64 O.st else undef), .eq (if (!((((((!(O.id.toList == Q.id.toList)) || (O.typ != Q.typ)) || (O.alg != Q.alg)) || (O.len != Q.len)) || (O.mask != Q.mask)) || (!(m1.toList == m2.toList)))) = true then .pointer (some ⟨b + 1, 6, none⟩) else undef), .eq (if (!((((((!(O.id.toList == Q.id.toList)) || (O.typ != Q.typ)) || (O.alg != Q.alg)) || (O.len != Q.len)) || (O.mask != Q.mask)) || (!(m1.toList == m2.toList)))) = true then .int .i64 Q.st else undef), .eq (if (!((((((!(O.id.toList == Q.id.toList)) || (O.typ != Q.typ)) || (O.alg != Q.alg)) || (O.len != Q.len)) || (O.mask != Q.mask)) || (!(m1.toList == m2.toList)))) = true then .bool (O.st != Q.st) else undef), .eq (.bool (((((((!(O.id.toList == Q.id.toList)) || (O.typ != Q.typ)) || (O.alg != Q.alg)) || (O.len != Q.len)) || (O.mask != Q.mask)) || (!(m1.toList == m2.toList))) || (O.st != Q.st))), .eq (.bool (((((((!(O.id.toList == Q.id.toList)) || (O.typ != Q.typ)) || (O.alg != Q.alg)) || (O.len != Q.len)) || (O.mask != Q.mask)) || (!(m1.toList == m2.toList))) || (O.st != Q.st))), .eq (if (!(((((((!(O.id.toList == Q.id.toList)) || (O.typ != Q.typ)) || (O.alg != Q.alg)) || (O.len != Q.len)) || (O.mask != Q.mask)) || (!(m1.toList == m2.toList))) || (O.st != Q.st))) = true then .pointer (some ⟨b, 7, none⟩) else undef), .eq (if (!(((((((!(O.id.toList == Q.id.toList)) || (O.typ != Q.typ)) || (O.alg != Q.alg)) || (O.len != Q.len)) || (O.mask != Q.mask)) || (!(m1.toList == m2.toList))) || (O.st != Q.st))) = true then .agg d1.toArray else undef), .eq (if (!(((((((!(O.id.toList == Q.id.toList)) || (O.typ != Q.typ)) || (O.alg != Q.alg)) || (O.len != Q.len)) || (O.mask != Q.mask)) || (!(m1.toList == m2.toList))) || (O.st != Q.st))) = true then .pointer (some ⟨b + 1, 7, none⟩) else undef), .eq (if (!(((((((!(O.id.toList == Q.id.toList)) || (O.typ != Q.typ)) || (O.alg != Q.alg)) || (O.len != Q.len)) || (O.mask != Q.mask)) || (!(m1.toList == m2.toList))) || (O.st != Q.st))) = true then .agg d2.toArray else undef), .eq (if (!(((((((!(O.id.toList == Q.id.toList)) || (O.typ != Q.typ)) || (O.alg != Q.alg)) || (O.len != Q.len)) || (O.mask != Q.mask)) || (!(m1.toList == m2.toList))) || (O.st != Q.st))) = true then .bool (!dq) else undef), .eq (.bool ((((((((!(O.id.toList == Q.id.toList)) || (O.typ != Q.typ)) || (O.alg != Q.alg)) || (O.len != Q.len)) || (O.mask != Q.mask)) || (!(m1.toList == m2.toList))) || (O.st != Q.st)) || (!dq))), .eq (.bool ((((((((!(O.id.toList == Q.id.toList)) || (O.typ != Q.typ)) || (O.alg != Q.alg)) || (O.len != Q.len)) || (O.mask != Q.mask)) || (!(m1.toList == m2.toList))) || (O.st != Q.st)) || (!dq))), .eq (if (!((((((((!(O.id.toList == Q.id.toList)) || (O.typ != Q.typ)) || (O.alg != Q.alg)) || (O.len != Q.len)) || (O.mask != Q.mask)) || (!(m1.toList == m2.toList))) || (O.st != Q.st)) || (!dq))) = true then .pointer (some ⟨b, 27, none⟩) else undef), .eq (if (!((((((((!(O.id.toList == Q.id.toList)) || (O.typ != Q.typ)) || (O.alg != Q.alg)) || (O.len != Q.len)) || (O.mask != Q.mask)) || (!(m1.toList == m2.toList))) || (O.st != Q.st)) || (!dq))) = true then .int .i64 O.reason else undef), .eq (if (!((((((((!(O.id.toList == Q.id.toList)) || (O.typ != Q.typ)) || (O.alg != Q.alg)) || (O.len != Q.len)) || (O.mask != Q.mask)) || (!(m1.toList == m2.toList))) || (O.st != Q.st)) || (!dq))) = true then .pointer (some ⟨b + 1, 27, none⟩) else undef), .eq (if (!((((((((!(O.id.toList == Q.id.toList)) || (O.typ != Q.typ)) || (O.alg != Q.alg)) || (O.len != Q.len)) || (O.mask != Q.mask)) || (!(m1.toList == m2.toList))) || (O.st != Q.st)) || (!dq))) = true then .int .i64 Q.reason else undef), .eq (if (!((((((((!(O.id.toList == Q.id.toList)) || (O.typ != Q.typ)) || (O.alg != Q.alg)) || (O.len != Q.len)) || (O.mask != Q.mask)) || (!(m1.toList == m2.toList))) || (O.st != Q.st)) || (!dq))) = true then .bool (O.reason != Q.reason) else undef), .eq (.bool (((((((((!(O.id.toList == Q.id.toList)) || (O.typ != Q.typ)) || (O.alg != Q.alg)) || (O.len != Q.len)) || (O.mask != Q.mask)) || (!(m1.toList == m2.toList))) || (O.st != Q.st)) || (!dq)) || (O.reason != Q.reason))), .eq (.bool (((((((((!(O.id.toList == Q.id.toList)) || (O.typ != Q.typ)) || (O.alg != Q.alg)) || (O.len != Q.len)) || (O.mask != Q.mask)) || (!(m1.toList == m2.toList))) || (O.st != Q.st)) || (!dq)) || (O.reason != Q.reason))), .eq (if (!(((((((((!(O.id.toList == Q.id.toList)) || (O.typ != Q.typ)) || (O.alg != Q.alg)) || (O.len != Q.len)) || (O.mask != Q.mask)) || (!(m1.toList == m2.toList))) || (O.st != Q.st)) || (!dq)) || (O.reason != Q.reason))) = true then .pointer (some ⟨b, 28, none⟩) else undef), .eq (if (!(((((((((!(O.id.toList == Q.id.toList)) || (O.typ != Q.typ)) || (O.alg != Q.alg)) || (O.len != Q.len)) || (O.mask != Q.mask)) || (!(m1.toList == m2.toList))) || (O.st != Q.st)) || (!dq)) || (O.reason != Q.reason))) = true then .string O.msg else undef), .eq (if (!(((((((((!(O.id.toList == Q.id.toList)) || (O.typ != Q.typ)) || (O.alg != Q.alg)) || (O.len != Q.len)) || (O.mask != Q.mask)) || (!(m1.toList == m2.toList))) || (O.st != Q.st)) || (!dq)) || (O.reason != Q.reason))) = true then .pointer (some ⟨b + 1, 28, none⟩) else undef), .eq (if (!(((((((((!(O.id.toList == Q.id.toList)) || (O.typ != Q.typ)) || (O.alg != Q.alg)) || (O.len != Q.len)) || (O.mask != Q.mask)) || (!(m1.toList == m2.toList))) || (O.st != Q.st)) || (!dq)) || (O.reason != Q.reason))) = true then .string Q.msg else undef), .eq (if (!(((((((((!(O.id.toList == Q.id.toList)) || (O.typ != Q.typ)) || (O.alg != Q.alg)) || (O.len != Q.len)) || (O.mask != Q.mask)) || (!(m1.toList == m2.toList))) || (O.st != Q.st)) || (!dq)) || (O.reason != Q.reason))) = true then .bool (!(O.msg.toList == Q.msg.toList)) else undef), .eq (.bool ((((((((((!(O.id.toList == Q.id.toList)) || (O.typ != Q.typ)) || (O.alg != Q.alg)) || (O.len != Q.len)) || (O.mask != Q.mask)) || (!(m1.toList == m2.toList))) || (O.st != Q.st)) || (!dq)) || (O.reason != Q.reason)) || (!(O.msg.toList == Q.msg.toList)))), .eq (.bool ((((((((((!(O.id.toList == Q.id.toList)) || (O.typ != Q.typ)) || (O.alg != Q.alg)) || (O.len != Q.len)) || (O.mask != Q.mask)) || (!(m1.toList == m2.toList))) || (O.st != Q.st)) || (!dq)) || (O.reason != Q.reason)) || (!(O.msg.toList == Q.msg.toList)))), .eq (if (!((((((((((!(O.id.toList == Q.id.toList)) || (O.typ != Q.typ)) || (O.alg != Q.alg)) || (O.len != Q.len)) || (O.mask != Q.mask)) || (!(m1.toList == m2.toList))) || (O.st != Q.st)) || (!dq)) || (O.reason != Q.reason)) || (!(O.msg.toList == Q.msg.toList)))) = true then .pointer (some ⟨b, 32, none⟩) else undef), .eq (if (!((((((((((!(O.id.toList == Q.id.toList)) || (O.typ != Q.typ)) || (O.alg != Q.alg)) || (O.len != Q.len)) || (O.mask != Q.mask)) || (!(m1.toList == m2.toList))) || (O.st != Q.st)) || (!dq)) || (O.reason != Q.reason)) || (!(O.msg.toList == Q.msg.toList)))) = true then .agg l1.toArray else undef), .eq (if (!((((((((((!(O.id.toList == Q.id.toList)) || (O.typ != Q.typ)) || (O.alg != Q.alg)) || (O.len != Q.len)) || (O.mask != Q.mask)) || (!(m1.toList == m2.toList))) || (O.st != Q.st)) || (!dq)) || (O.reason != Q.reason)) || (!(O.msg.toList == Q.msg.toList)))) = true then .pointer (some ⟨b + 1, 32, none⟩) else undef), .eq (if (!((((((((((!(O.id.toList == Q.id.toList)) || (O.typ != Q.typ)) || (O.alg != Q.alg)) || (O.len != Q.len)) || (O.mask != Q.mask)) || (!(m1.toList == m2.toList))) || (O.st != Q.st)) || (!dq)) || (O.reason != Q.reason)) || (!(O.msg.toList == Q.msg.toList)))) = true then .agg l2.toArray else undef), .eq (if (!((((((((((!(O.id.toList == Q.id.toList)) || (O.typ != Q.typ)) || (O.alg != Q.alg)) || (O.len != Q.len)) || (O.mask != Q.mask)) || (!(m1.toList == m2.toList))) || (O.st != Q.st)) || (!dq)) || (O.reason != Q.reason)) || (!(O.msg.toList == Q.msg.toList)))) = true then .bool (!lq) else undef), .eq (.bool (((((((((((!(O.id.toList == Q.id.toList)) || (O.typ != Q.typ)) || (O.alg != Q.alg)) || (O.len != Q.len)) || (O.mask != Q.mask)) || (!(m1.toList == m2.toList))) || (O.st != Q.st)) || (!dq)) || (O.reason != Q.reason)) || (!(O.msg.toList == Q.msg.toList))) || (!lq))), .eq (.bool (((((((((((!(O.id.toList == Q.id.toList)) || (O.typ != Q.typ)) || (O.alg != Q.alg)) || (O.len != Q.len)) || (O.mask != Q.mask)) || (!(m1.toList == m2.toList))) || (O.st != Q.st)) || (!dq)) || (O.reason != Q.reason)) || (!(O.msg.toList == Q.msg.toList))) || (!lq))), .eq (if (!(((((((((((!(O.id.toList == Q.id.toList)) || (O.typ != Q.typ)) || (O.alg != Q.alg)) || (O.len != Q.len)) || (O.mask != Q.mask)) || (!(m1.toList == m2.toList))) || (O.st != Q.st)) || (!dq)) || (O.reason != Q.reason)) || (!(O.msg.toList == Q.msg.toList))) || (!lq))) = true then .pointer (some ⟨b, 36, none⟩) else undef), .eq (if (!(((((((((((!(O.id.toList == Q.id.toList)) || (O.typ != Q.typ)) || (O.alg != Q.alg)) || (O.len != Q.len)) || (O.mask != Q.mask)) || (!(m1.toList == m2.toList))) || (O.st != Q.st)) || (!dq)) || (O.reason != Q.reason)) || (!(O.msg.toList == Q.msg.toList))) || (!lq))) = true then .bool O.arch else undef), .eq (if (!(((((((((((!(O.id.toList == Q.id.toList)) || (O.typ != Q.typ)) || (O.alg != Q.alg)) || (O.len != Q.len)) || (O.mask != Q.mask)) || (!(m1.toList == m2.toList))) || (O.st != Q.st)) || (!dq)) || (O.reason != Q.reason)) || (!(O.msg.toList == Q.msg.toList))) || (!lq))) = true then .pointer (some ⟨b + 1, 36, none⟩) else undef), .eq (if (!(((((((((((!(O.id.toList == Q.id.toList)) || (O.typ != Q.typ)) || (O.alg != Q.alg)) || (O.len != Q.len)) || (O.mask != Q.mask)) || (!(m1.toList == m2.toList))) || (O.st != Q.st)) || (!dq)) || (O.reason != Q.reason)) || (!(O.msg.toList == Q.msg.toList))) || (!lq))) = true then .bool Q.arch else undef), .eq (if (!(((((((((((!(O.id.toList == Q.id.toList)) || (O.typ != Q.typ)) || (O.alg != Q.alg)) || (O.len != Q.len)) || (O.mask != Q.mask)) || (!(m1.toList == m2.toList))) || (O.st != Q.st)) || (!dq)) || (O.reason != Q.reason)) || (!(O.msg.toList == Q.msg.toList))) || (!lq))) = true then .bool (O.arch != Q.arch) else undef), .eq (.bool ((((((((((((!(O.id.toList == Q.id.toList)) || (O.typ != Q.typ)) || (O.alg != Q.alg)) || (O.len != Q.len)) || (O.mask != Q.mask)) || (!(m1.toList == m2.toList))) || (O.st != Q.st)) || (!dq)) || (O.reason != Q.reason)) || (!(O.msg.toList == Q.msg.toList))) || (!lq)) || (O.arch != Q.arch))), .eq (.bool ((((((((((((!(O.id.toList == Q.id.toList)) || (O.typ != Q.typ)) || (O.alg != Q.alg)) || (O.len != Q.len)) || (O.mask != Q.mask)) || (!(m1.toList == m2.toList))) || (O.st != Q.st)) || (!dq)) || (O.reason != Q.reason)) || (!(O.msg.toList == Q.msg.toList))) || (!lq)) || (O.arch != Q.arch))), .eq (if (!((((((((((((!(O.id.toList == Q.id.toList)) || (O.typ != Q.typ)) || (O.alg != Q.alg)) || (O.len != Q.len)) || (O.mask != Q.mask)) || (!(m1.toList == m2.toList))) || (O.st != Q.st)) || (!dq)) || (O.reason != Q.reason)) || (!(O.msg.toList == Q.msg.toList))) || (!lq)) || (O.arch != Q.arch))) = true then .pointer (some ⟨b, 29, none⟩) else undef), .eq (if (!((((((((((((!(O.id.toList == Q.id.toList)) || (O.typ != Q.typ)) || (O.alg != Q.alg)) || (O.len != Q.len)) || (O.mask != Q.mask)) || (!(m1.toList == m2.toList))) || (O.st != Q.st)) || (!dq)) || (O.reason != Q.reason)) || (!(O.msg.toList == Q.msg.toList))) || (!lq)) || (O.arch != Q.arch))) = true then .slice s.names.a s.names.n s.names.c else undef), .eq (if (!((((((((((((!(O.id.toList == Q.id.toList)) || (O.typ != Q.typ)) || (O.alg != Q.alg)) || (O.len != Q.len)) || (O.mask != Q.mask)) || (!(m1.toList == m2.toList))) || (O.st != Q.st)) || (!dq)) || (O.reason != Q.reason)) || (!(O.msg.toList == Q.msg.toList))) || (!lq)) || (O.arch != Q.arch))) = true then .int .i64 (s.names.n : Int) else undef), .eq (if (!((((((((((((!(O.id.toList == Q.id.toList)) || (O.typ != Q.typ)) || (O.alg != Q.alg)) || (O.len != Q.len)) || (O.mask != Q.mask)) || (!(m1.toList == m2.toList))) || (O.st != Q.st)) || (!dq)) || (O.reason != Q.reason)) || (!(O.msg.toList == Q.msg.toList))) || (!lq)) || (O.arch != Q.arch))) = true then .pointer (some ⟨b + 1, 29, none⟩) else undef), .eq (if (!((((((((((((!(O.id.toList == Q.id.toList)) || (O.typ != Q.typ)) || (O.alg != Q.alg)) || (O.len != Q.len)) || (O.mask != Q.mask)) || (!(m1.toList == m2.toList))) || (O.st != Q.st)) || (!dq)) || (O.reason != Q.reason)) || (!(O.msg.toList == Q.msg.toList))) || (!lq)) || (O.arch != Q.arch))) = true then .slice t.names.a t.names.n t.names.c else undef), .eq (if (!((((((((((((!(O.id.toList == Q.id.toList)) || (O.typ != Q.typ)) || (O.alg != Q.alg)) || (O.len != Q.len)) || (O.mask != Q.mask)) || (!(m1.toList == m2.toList))) || (O.st != Q.st)) || (!dq)) || (O.reason != Q.reason)) || (!(O.msg.toList == Q.msg.toList))) || (!lq)) || (O.arch != Q.arch))) = true then .int .i64 (t.names.n : Int) else undef), .eq (if (!((((((((((((!(O.id.toList == Q.id.toList)) || (O.typ != Q.typ)) || (O.alg != Q.alg)) || (O.len != Q.len)) || (O.mask != Q.mask)) || (!(m1.toList == m2.toList))) || (O.st != Q.st)) || (!dq)) || (O.reason != Q.reason)) || (!(O.msg.toList == Q.msg.toList))) || (!lq)) || (O.arch != Q.arch))) = true then .bool ((s.names.n : Int) != (t.names.n : Int)) else undef), .eq (.bool (((((((((((((!(O.id.toList == Q.id.toList)) || (O.typ != Q.typ)) || (O.alg != Q.alg)) || (O.len != Q.len)) || (O.mask != Q.mask)) || (!(m1.toList == m2.toList))) || (O.st != Q.st)) || (!dq)) || (O.reason != Q.reason)) || (!(O.msg.toList == Q.msg.toList))) || (!lq)) || (O.arch != Q.arch)) || ((s.names.n : Int) != (t.names.n : Int)))), .eq (.bool (((((((((((((!(O.id.toList == Q.id.toList)) || (O.typ != Q.typ)) || (O.alg != Q.alg)) || (O.len != Q.len)) || (O.mask != Q.mask)) || (!(m1.toList == m2.toList))) || (O.st != Q.st)) || (!dq)) || (O.reason != Q.reason)) || (!(O.msg.toList == Q.msg.toList))) || (!lq)) || (O.arch != Q.arch)) || ((s.names.n : Int) != (t.names.n : Int)))), .eq (if (!(((((((((((((!(O.id.toList == Q.id.toList)) || (O.typ != Q.typ)) || (O.alg != Q.alg)) || (O.len != Q.len)) || (O.mask != Q.mask)) || (!(m1.toList == m2.toList))) || (O.st != Q.st)) || (!dq)) || (O.reason != Q.reason)) || (!(O.msg.toList == Q.msg.toList))) || (!lq)) || (O.arch != Q.arch)) || ((s.names.n : Int) != (t.names.n : Int)))) = true then .pointer (some ⟨b, 30, none⟩) else undef), .eq (if (!(((((((((((((!(O.id.toList == Q.id.toList)) || (O.typ != Q.typ)) || (O.alg != Q.alg)) || (O.len != Q.len)) || (O.mask != Q.mask)) || (!(m1.toList == m2.toList))) || (O.st != Q.st)) || (!dq)) || (O.reason != Q.reason)) || (!(O.msg.toList == Q.msg.toList))) || (!lq)) || (O.arch != Q.arch)) || ((s.names.n : Int) != (t.names.n : Int)))) = true then .slice s.links.a s.links.n s.links.c else undef), .eq (if (!(((((((((((((!(O.id.toList == Q.id.toList)) || (O.typ != Q.typ)) || (O.alg != Q.alg)) || (O.len != Q.len)) || (O.mask != Q.mask)) || (!(m1.toList == m2.toList))) || (O.st != Q.st)) || (!dq)) || (O.reason != Q.reason)) || (!(O.msg.toList == Q.msg.toList))) || (!lq)) || (O.arch != Q.arch)) || ((s.names.n : Int) != (t.names.n : Int)))) = true then .int .i64 (s.links.n : Int) else undef), .eq (if (!(((((((((((((!(O.id.toList == Q.id.toList)) || (O.typ != Q.typ)) || (O.alg != Q.alg)) || (O.len != Q.len)) || (O.mask != Q.mask)) || (!(m1.toList == m2.toList))) || (O.st != Q.st)) || (!dq)) || (O.reason != Q.reason)) || (!(O.msg.toList == Q.msg.toList))) || (!lq)) || (O.arch != Q.arch)) || ((s.names.n : Int) != (t.names.n : Int)))) = true then .pointer (some ⟨b + 1, 30, none⟩) else undef), .eq (if (!(((((((((((((!(O.id.toList == Q.id.toList)) || (O.typ != Q.typ)) || (O.alg != Q.alg)) || (O.len != Q.len)) || (O.mask != Q.mask)) || (!(m1.toList == m2.toList))) || (O.st != Q.st)) || (!dq)) || (O.reason != Q.reason)) || (!(O.msg.toList == Q.msg.toList))) || (!lq)) || (O.arch != Q.arch)) || ((s.names.n : Int) != (t.names.n : Int)))) = true then .slice t.links.a t.links.n t.links.c else undef), .eq (if (!(((((((((((((!(O.id.toList == Q.id.toList)) || (O.typ != Q.typ)) || (O.alg != Q.alg)) || (O.len != Q.len)) || (O.mask != Q.mask)) || (!(m1.toList == m2.toList))) || (O.st != Q.st)) || (!dq)) || (O.reason != Q.reason)) || (!(O.msg.toList == Q.msg.toList))) || (!lq)) || (O.arch != Q.arch)) || ((s.names.n : Int) != (t.names.n : Int)))) = true then .int .i64 (t.links.n : Int) else undef), .eq (if (!(((((((((((((!(O.id.toList == Q.id.toList)) || (O.typ != Q.typ)) || (O.alg != Q.alg)) || (O.len != Q.len)) || (O.mask != Q.mask)) || (!(m1.toList == m2.toList))) || (O.st != Q.st)) || (!dq)) || (O.reason != Q.reason)) || (!(O.msg.toList == Q.msg.toList))) || (!lq)) || (O.arch != Q.arch)) || ((s.names.n : Int) != (t.names.n : Int)))) = true then .bool ((s.links.n : Int) != (t.links.n : Int)) else undef), .eq (.bool ((((((((((((((!(O.id.toList == Q.id.toList)) || (O.typ != Q.typ)) || (O.alg != Q.alg)) || (O.len != Q.len)) || (O.mask != Q.mask)) || (!(m1.toList == m2.toList))) || (O.st != Q.st)) || (!dq)) || (O.reason != Q.reason)) || (!(O.msg.toList == Q.msg.toList))) || (!lq)) || (O.arch != Q.arch)) || ((s.names.n : Int) != (t.names.n : Int))) || ((s.links.n : Int) != (t.links.n : Int)))), .eq (.bool ((((((((((((((!(O.id.toList == Q.id.toList)) || (O.typ != Q.typ)) || (O.alg != Q.alg)) || (O.len != Q.len)) || (O.mask != Q.mask)) || (!(m1.toList == m2.toList))) || (O.st != Q.st)) || (!dq)) || (O.reason != Q.reason)) || (!(O.msg.toList == Q.msg.toList))) || (!lq)) || (O.arch != Q.arch)) || ((s.names.n : Int) != (t.names.n : Int))) || ((s.links.n : Int) != (t.links.n : Int)))), .eq (if (!((((((((((((((!(O.id.toList == Q.id.toList)) || (O.typ != Q.typ)) || (O.alg != Q.alg)) || (O.len != Q.len)) || (O.mask != Q.mask)) || (!(m1.toList == m2.toList))) || (O.st != Q.st)) || (!dq)) || (O.reason != Q.reason)) || (!(O.msg.toList == Q.msg.toList))) || (!lq)) || (O.arch != Q.arch)) || ((s.names.n : Int) != (t.names.n : Int))) || ((s.links.n : Int) != (t.links.n : Int)))) = true then .pointer (some ⟨b, 31, none⟩) else undef), .eq (if (!((((((((((((((!(O.id.toList == Q.id.toList)) || (O.typ != Q.typ)) || (O.alg != Q.alg)) || (O.len != Q.len)) || (O.mask != Q.mask)) || (!(m1.toList == m2.toList))) || (O.st != Q.st)) || (!dq)) || (O.reason != Q.reason)) || (!(O.msg.toList == Q.msg.toList))) || (!lq)) || (O.arch != Q.arch)) || ((s.names.n : Int) != (t.names.n : Int))) || ((s.links.n : Int) != (t.links.n : Int)))) = true then .slice s.custom.a s.custom.n s.custom.c else undef), .eq (if (!((((((((((((((!(O.id.toList == Q.id.toList)) || (O.typ != Q.typ)) || (O.alg != Q.alg)) || (O.len != Q.len)) || (O.mask != Q.mask)) || (!(m1.toList == m2.toList))) || (O.st != Q.st)) || (!dq)) || (O.reason != Q.reason)) || (!(O.msg.toList == Q.msg.toList))) || (!lq)) || (O.arch != Q.arch)) || ((s.names.n : Int) != (t.names.n : Int))) || ((s.links.n : Int) != (t.links.n : Int)))) = true then .int .i64 (s.custom.n : Int) else undef), .eq (if (!((((((((((((((!(O.id.toList == Q.id.toList)) || (O.typ != Q.typ)) || (O.alg != Q.alg)) || (O.len != Q.len)) || (O.mask != Q.mask)) || (!(m1.toList == m2.toList))) || (O.st != Q.st)) || (!dq)) || (O.reason != Q.reason)) || (!(O.msg.toList == Q.msg.toList))) || (!lq)) || (O.arch != Q.arch)) || ((s.names.n : Int) != (t.names.n : Int))) || ((s.links.n : Int) != (t.links.n : Int)))) = true then .pointer (some ⟨b + 1, 31, none⟩) else undef), .eq (if (!((((((((((((((!(O.id.toList == Q.id.toList)) || (O.typ != Q.typ)) || (O.alg != Q.alg)) || (O.len != Q.len)) || (O.mask != Q.mask)) || (!(m1.toList == m2.toList))) || (O.st != Q.st)) || (!dq)) || (O.reason != Q.reason)) || (!(O.msg.toList == Q.msg.toList))) || (!lq)) || (O.arch != Q.arch)) || ((s.names.n : Int) != (t.names.n : Int))) || ((s.links.n : Int) != (t.links.n : Int)))) = true then .slice t.custom.a t.custom.n t.custom.c else undef), .eq (if (!((((((((((((((!(O.id.toList == Q.id.toList)) || (O.typ != Q.typ)) || (O.alg != Q.alg)) || (O.len != Q.len)) || (O.mask != Q.mask)) || (!(m1.toList == m2.toList))) || (O.st != Q.st)) || (!dq)) || (O.reason != Q.reason)) || (!(O.msg.toList == Q.msg.toList))) || (!lq)) || (O.arch != Q.arch)) || ((s.names.n : Int) != (t.names.n : Int))) || ((s.links.n : Int) != (t.links.n : Int)))) = true then .int .i64 (t.custom.n : Int) else undef), .eq (if (!((((((((((((((!(O.id.toList == Q.id.toList)) || (O.typ != Q.typ)) || (O.alg != Q.alg)) || (O.len != Q.len)) || (O.mask != Q.mask)) || (!(m1.toList == m2.toList))) || (O.st != Q.st)) || (!dq)) || (O.reason != Q.reason)) || (!(O.msg.toList == Q.msg.toList))) || (!lq)) || (O.arch != Q.arch)) || ((s.names.n : Int) != (t.names.n : Int))) || ((s.links.n : Int) != (t.links.n : Int)))) = true then .bool ((s.custom.n : Int) != (t.custom.n : Int)) else undef), .eq (.bool (((((((((((((((!(O.id.toList == Q.id.toList)) || (O.typ != Q.typ)) || (O.alg != Q.alg)) || (O.len != Q.len)) || (O.mask != Q.mask)) || (!(m1.toList == m2.toList))) || (O.st != Q.st)) || (!dq)) || (O.reason != Q.reason)) || (!(O.msg.toList == Q.msg.toList))) || (!lq)) || (O.arch != Q.arch)) || ((s.names.n : Int) != (t.names.n : Int))) || ((s.links.n : Int) != (t.links.n : Int))) || ((s.custom.n : Int) != (t.custom.n : Int))))] (by kernel_rfl) ?_ ?_
    · all_goals
        refine each_5 ?_ ?_ ?_ ?_ ?_ (each_5 ?_ ?_ ?_ ?_ ?_ (each_5 ?_ ?_ ?_ ?_ ?_ (each_5 ?_ ?_ ?_ ?_ ?_ (each_5 ?_ ?_ ?_ ?_ ?_ (each_5 ?_ ?_ ?_ ?_ ?_ (each_5 ?_ ?_ ?_ ?_ ?_ (each_5 ?_ ?_ ?_ ?_ ?_ (each_5 ?_ ?_ ?_ ?_ ?_ (each_5 ?_ ?_ ?_ ?_ ?_ (each_5 ?_ ?_ ?_ ?_ ?_ (each_5 ?_ ?_ ?_ ?_ ?_ (each_5 ?_ ?_ ?_ ?_ ?_ (each_5 ?_ ?_ ?_ ?_ ?_ (each_5 ?_ ?_ ?_ ?_ ?_ (each_5 ?_ ?_ ?_ ?_ ?_ (each_5 ?_ ?_ ?_ ?_ ?_ (each_5 ?_ ?_ ?_ ?_ ?_ (each_5 ?_ ?_ ?_ ?_ ?_ (each_5 ?_ ?_ ?_ ?_ ?_ (each_5 ?_ ?_ ?_ ?_ ?_ (each_5 ?_ ?_ ?_ ?_ ?_ (each_c ?_ (each_n)))))))))))))))))))))))
        · intro w1 hg Ar seen
          have s2 := seen.sl 2 (.pointer (some ⟨b, 0, none⟩))
          refine does_plain rfl fun K Q' hK => ?_
          go_simp; exact hK _ _ (Grow.refl _) rfl
        · intro w1 hg Ar seen
          have e0 := seen.de 0 8
          refine does_plain rfl fun K Q' hK => ?_
          have hc0 := cell_of_block (j := 0) ((hg.block _ (block_lt S.out.one)).trans S.out.one) (oc0 O s)
          go_simp; exact hK _ _ (Grow.refl _) rfl
        · intro w1 hg Ar seen
          have s3 := seen.sl 3 (.pointer (some ⟨b + 1, 0, none⟩))
          refine does_plain rfl fun K Q' hK => ?_
          go_simp; exact hK _ _ (Grow.refl _) rfl
        · intro w1 hg Ar seen
          have e2 := seen.de 2 10
          refine does_plain rfl fun K Q' hK => ?_
          have hc0 := cell_of_block (j := 0) ((hg.block _ (block_lt S.out.two)).trans S.out.two) (oc0 Q t)
          go_simp; exact hK _ _ (Grow.refl _) rfl
        · intro w1 hg Ar seen
          have e1 := seen.de 1 9
          have e3 := seen.de 3 11
          refine does_plain rfl fun K Q' hK => ?_
          go_simp; exact hK _ _ (Grow.refl _) rfl
        · intro w1 hg Ar seen
          have e4 := seen.de 4 12
          refine does_plain rfl fun K Q' hK => ?_
          go_simp; exact hK _ _ (Grow.refl _) rfl
        · intro w1 hg Ar seen
          have s2 := seen.sl 2 (.pointer (some ⟨b, 0, none⟩))
          have eg := seen.de 5 13
          by_cases hc0 : ((!(O.id.toList == Q.id.toList)) : Bool) = true
          · have hc := hc0
            clear hc0
            rw [hc] at eg
            have hWi : (!(!(O.id.toList == Q.id.toList))) = false := by rw [hc]; rfl
            exact does_off rfl (by kernel_rfl) eg ne_tf (Grow.refl _) (show undef = _ from (if_f hWi).symm)
          · have hc : ((!(O.id.toList == Q.id.toList)) : Bool) = false := by rw [← Bool.not_eq_true]; exact hc0
            clear hc0
            rw [hc] at eg
            have hWi : (!(!(O.id.toList == Q.id.toList))) = true := by rw [hc]; rfl
            refine does_on rfl (by kernel_rfl) eg fun K Q' hK => ?_
            clear eg
            have hf : Hid ((.pointer (some ⟨b, 1, none⟩) : Value) = (if (!(!(O.id.toList == Q.id.toList))) = true then .pointer (some ⟨b, 1, none⟩) else undef)) := (if_t hWi).symm
            clear hWi hc
            go_simp; exact hK _ _ (Grow.refl _) hf.out
        · intro w1 hg Ar seen
          have e6 := seen.de 6 14
          have eg := seen.de 5 13
          by_cases hc0 : ((!(O.id.toList == Q.id.toList)) : Bool) = true
          · have hc := hc0
            clear hc0
            rw [hc] at eg
            have hWi : (!(!(O.id.toList == Q.id.toList))) = false := by rw [hc]; rfl
            exact does_off rfl (by kernel_rfl) eg ne_tf (Grow.refl _) (show undef = _ from (if_f hWi).symm)
          · have hc : ((!(O.id.toList == Q.id.toList)) : Bool) = false := by rw [← Bool.not_eq_true]; exact hc0
            clear hc0
            rw [hc] at eg
            have hWi : (!(!(O.id.toList == Q.id.toList))) = true := by rw [hc]; rfl
            refine does_on rfl (by kernel_rfl) eg fun K Q' hK => ?_
            clear eg
            replace e6 := e6.trans (congrArg some (if_t hWi))
            have hf : Hid ((.int .i64 O.typ : Value) = (if (!(!(O.id.toList == Q.id.toList))) = true then .int .i64 O.typ else undef)) := (if_t hWi).symm
            clear hWi hc
            have hc0 := cell_of_block (j := 1) ((hg.block _ (block_lt S.out.one)).trans S.out.one) (oc1 O s)
            go_simp; exact hK _ _ (Grow.refl _) hf.out
        · intro w1 hg Ar seen
          have s3 := seen.sl 3 (.pointer (some ⟨b + 1, 0, none⟩))
          have eg := seen.de 5 13
          by_cases hc0 : ((!(O.id.toList == Q.id.toList)) : Bool) = true
          · have hc := hc0
            clear hc0
            rw [hc] at eg
            have hWi : (!(!(O.id.toList == Q.id.toList))) = false := by rw [hc]; rfl
            exact does_off rfl (by kernel_rfl) eg ne_tf (Grow.refl _) (show undef = _ from (if_f hWi).symm)
          · have hc : ((!(O.id.toList == Q.id.toList)) : Bool) = false := by rw [← Bool.not_eq_true]; exact hc0
            clear hc0
            rw [hc] at eg
            have hWi : (!(!(O.id.toList == Q.id.toList))) = true := by rw [hc]; rfl
            refine does_on rfl (by kernel_rfl) eg fun K Q' hK => ?_
            clear eg
            have hf : Hid ((.pointer (some ⟨b + 1, 1, none⟩) : Value) = (if (!(!(O.id.toList == Q.id.toList))) = true then .pointer (some ⟨b + 1, 1, none⟩) else undef)) := (if_t hWi).symm
            clear hWi hc
            go_simp; exact hK _ _ (Grow.refl _) hf.out
        · intro w1 hg Ar seen
          have e8 := seen.de 8 16
          have eg := seen.de 5 13
          by_cases hc0 : ((!(O.id.toList == Q.id.toList)) : Bool) = true
          · have hc := hc0
            clear hc0
            rw [hc] at eg
            have hWi : (!(!(O.id.toList == Q.id.toList))) = false := by rw [hc]; rfl
            exact does_off rfl (by kernel_rfl) eg ne_tf (Grow.refl _) (show undef = _ from (if_f hWi).symm)
          · have hc : ((!(O.id.toList == Q.id.toList)) : Bool) = false := by rw [← Bool.not_eq_true]; exact hc0
            clear hc0
            rw [hc] at eg
            have hWi : (!(!(O.id.toList == Q.id.toList))) = true := by rw [hc]; rfl
            refine does_on rfl (by kernel_rfl) eg fun K Q' hK => ?_
            clear eg
            replace e8 := e8.trans (congrArg some (if_t hWi))
            have hf : Hid ((.int .i64 Q.typ : Value) = (if (!(!(O.id.toList == Q.id.toList))) = true then .int .i64 Q.typ else undef)) := (if_t hWi).symm
            clear hWi hc
            have hc0 := cell_of_block (j := 1) ((hg.block _ (block_lt S.out.two)).trans S.out.two) (oc1 Q t)
            go_simp; exact hK _ _ (Grow.refl _) hf.out
        · intro w1 hg Ar seen
          have e7 := seen.de 7 15
          have e9 := seen.de 9 17
          have eg := seen.de 5 13
          by_cases hc0 : ((!(O.id.toList == Q.id.toList)) : Bool) = true
          · have hc := hc0
            clear hc0
            rw [hc] at eg
            have hWi : (!(!(O.id.toList == Q.id.toList))) = false := by rw [hc]; rfl
            exact does_off rfl (by kernel_rfl) eg ne_tf (Grow.refl _) (show undef = _ from (if_f hWi).symm)
          · have hc : ((!(O.id.toList == Q.id.toList)) : Bool) = false := by rw [← Bool.not_eq_true]; exact hc0
            clear hc0
            rw [hc] at eg
            have hWi : (!(!(O.id.toList == Q.id.toList))) = true := by rw [hc]; rfl
            refine does_on rfl (by kernel_rfl) eg fun K Q' hK => ?_
            clear eg
            replace e7 := e7.trans (congrArg some (if_t hWi))
            replace e9 := e9.trans (congrArg some (if_t hWi))
            have hf : Hid ((.bool (O.typ != Q.typ) : Value) = (if (!(!(O.id.toList == Q.id.toList))) = true then .bool (O.typ != Q.typ) else undef)) := (if_t hWi).symm
            clear hWi hc
            go_simp; exact hK _ _ (Grow.refl _) hf.out
        · intro w1 hg Ar seen
          have e5 := seen.de 5 13
          have e10 := seen.de 10 18
          refine does_plain rfl fun K Q' hK => ?_
          by_cases hp0 : ((!(O.id.toList == Q.id.toList)) : Bool) = true
          · have hp := hp0
            clear hp0
            rw [hp] at e5
            clear e10
            have hv := hid (by show (Value.bool true) = .bool ((!(O.id.toList == Q.id.toList)) || (O.typ != Q.typ)); rw [hp]; rfl)
            clear hp
            go_simp; exact hK _ _ (Grow.refl _) hv.out
          · have hp : ((!(O.id.toList == Q.id.toList)) : Bool) = false := by rw [← Bool.not_eq_true]; exact hp0
            clear hp0
            rw [hp] at e5
            replace e10 := e10.trans (congrArg some (if_t (by rw [hp]; rfl)))
            have hv := hid (by show (Value.bool (O.typ != Q.typ)) = .bool ((!(O.id.toList == Q.id.toList)) || (O.typ != Q.typ)); rw [hp]; rfl)
            clear hp
            go_simp; exact hK _ _ (Grow.refl _) hv.out
        · intro w1 hg Ar seen
          have e11 := seen.de 11 19
          refine does_plain rfl fun K Q' hK => ?_
          go_simp; exact hK _ _ (Grow.refl _) rfl
        · intro w1 hg Ar seen
          have s2 := seen.sl 2 (.pointer (some ⟨b, 0, none⟩))
          have eg := seen.de 12 20
          by_cases hc0 : (((!(O.id.toList == Q.id.toList)) || (O.typ != Q.typ)) : Bool) = true
          · have hc := hc0
            clear hc0
            rw [hc] at eg
            have hWi : (!((!(O.id.toList == Q.id.toList)) || (O.typ != Q.typ))) = false := by rw [hc]; rfl
            exact does_off rfl (by kernel_rfl) eg ne_tf (Grow.refl _) (show undef = _ from (if_f hWi).symm)
          · have hc : (((!(O.id.toList == Q.id.toList)) || (O.typ != Q.typ)) : Bool) = false := by rw [← Bool.not_eq_true]; exact hc0
            clear hc0
            rw [hc] at eg
            have hWi : (!((!(O.id.toList == Q.id.toList)) || (O.typ != Q.typ))) = true := by rw [hc]; rfl
            refine does_on rfl (by kernel_rfl) eg fun K Q' hK => ?_
            clear eg
            have hf : Hid ((.pointer (some ⟨b, 2, none⟩) : Value) = (if (!((!(O.id.toList == Q.id.toList)) || (O.typ != Q.typ))) = true then .pointer (some ⟨b, 2, none⟩) else undef)) := (if_t hWi).symm
            clear hWi hc
            go_simp; exact hK _ _ (Grow.refl _) hf.out
        · intro w1 hg Ar seen
          have e13 := seen.de 13 21
          have eg := seen.de 12 20
          by_cases hc0 : (((!(O.id.toList == Q.id.toList)) || (O.typ != Q.typ)) : Bool) = true
          · have hc := hc0
            clear hc0
            rw [hc] at eg
            have hWi : (!((!(O.id.toList == Q.id.toList)) || (O.typ != Q.typ))) = false := by rw [hc]; rfl
            exact does_off rfl (by kernel_rfl) eg ne_tf (Grow.refl _) (show undef = _ from (if_f hWi).symm)
          · have hc : (((!(O.id.toList == Q.id.toList)) || (O.typ != Q.typ)) : Bool) = false := by rw [← Bool.not_eq_true]; exact hc0
            clear hc0
            rw [hc] at eg
            have hWi : (!((!(O.id.toList == Q.id.toList)) || (O.typ != Q.typ))) = true := by rw [hc]; rfl
            refine does_on rfl (by kernel_rfl) eg fun K Q' hK => ?_
            clear eg
            replace e13 := e13.trans (congrArg some (if_t hWi))
            have hf : Hid ((.int .i64 O.alg : Value) = (if (!((!(O.id.toList == Q.id.toList)) || (O.typ != Q.typ))) = true then .int .i64 O.alg else undef)) := (if_t hWi).symm
            clear hWi hc
            have hc0 := cell_of_block (j := 2) ((hg.block _ (block_lt S.out.one)).trans S.out.one) (oc2 O s)
            go_simp; exact hK _ _ (Grow.refl _) hf.out
        · intro w1 hg Ar seen
          have s3 := seen.sl 3 (.pointer (some ⟨b + 1, 0, none⟩))
          have eg := seen.de 12 20
          by_cases hc0 : (((!(O.id.toList == Q.id.toList)) || (O.typ != Q.typ)) : Bool) = true
          · have hc := hc0
            clear hc0
            rw [hc] at eg
            have hWi : (!((!(O.id.toList == Q.id.toList)) || (O.typ != Q.typ))) = false := by rw [hc]; rfl
            exact does_off rfl (by kernel_rfl) eg ne_tf (Grow.refl _) (show undef = _ from (if_f hWi).symm)
          · have hc : (((!(O.id.toList == Q.id.toList)) || (O.typ != Q.typ)) : Bool) = false := by rw [← Bool.not_eq_true]; exact hc0
            clear hc0
            rw [hc] at eg
            have hWi : (!((!(O.id.toList == Q.id.toList)) || (O.typ != Q.typ))) = true := by rw [hc]; rfl
            refine does_on rfl (by kernel_rfl) eg fun K Q' hK => ?_
            clear eg
            have hf : Hid ((.pointer (some ⟨b + 1, 2, none⟩) : Value) = (if (!((!(O.id.toList == Q.id.toList)) || (O.typ != Q.typ))) = true then .pointer (some ⟨b + 1, 2, none⟩) else undef)) := (if_t hWi).symm
            clear hWi hc
            go_simp; exact hK _ _ (Grow.refl _) hf.out
        · intro w1 hg Ar seen
          have e15 := seen.de 15 23
          have eg := seen.de 12 20
          by_cases hc0 : (((!(O.id.toList == Q.id.toList)) || (O.typ != Q.typ)) : Bool) = true
          · have hc := hc0
            clear hc0
            rw [hc] at eg
            have hWi : (!((!(O.id.toList == Q.id.toList)) || (O.typ != Q.typ))) = false := by rw [hc]; rfl
            exact does_off rfl (by kernel_rfl) eg ne_tf (Grow.refl _) (show undef = _ from (if_f hWi).symm)
          · have hc : (((!(O.id.toList == Q.id.toList)) || (O.typ != Q.typ)) : Bool) = false := by rw [← Bool.not_eq_true]; exact hc0
            clear hc0
            rw [hc] at eg
            have hWi : (!((!(O.id.toList == Q.id.toList)) || (O.typ != Q.typ))) = true := by rw [hc]; rfl
            refine does_on rfl (by kernel_rfl) eg fun K Q' hK => ?_
            clear eg
            replace e15 := e15.trans (congrArg some (if_t hWi))
            have hf : Hid ((.int .i64 Q.alg : Value) = (if (!((!(O.id.toList == Q.id.toList)) || (O.typ != Q.typ))) = true then .int .i64 Q.alg else undef)) := (if_t hWi).symm
            clear hWi hc
            have hc0 := cell_of_block (j := 2) ((hg.block _ (block_lt S.out.two)).trans S.out.two) (oc2 Q t)
            go_simp; exact hK _ _ (Grow.refl _) hf.out
        · intro w1 hg Ar seen
          have e14 := seen.de 14 22
          have e16 := seen.de 16 24
          have eg := seen.de 12 20
          by_cases hc0 : (((!(O.id.toList == Q.id.toList)) || (O.typ != Q.typ)) : Bool) = true
          · have hc := hc0
            clear hc0
            rw [hc] at eg
            have hWi : (!((!(O.id.toList == Q.id.toList)) || (O.typ != Q.typ))) = false := by rw [hc]; rfl
            exact does_off rfl (by kernel_rfl) eg ne_tf (Grow.refl _) (show undef = _ from (if_f hWi).symm)
          · have hc : (((!(O.id.toList == Q.id.toList)) || (O.typ != Q.typ)) : Bool) = false := by rw [← Bool.not_eq_true]; exact hc0
            clear hc0
            rw [hc] at eg
            have hWi : (!((!(O.id.toList == Q.id.toList)) || (O.typ != Q.typ))) = true := by rw [hc]; rfl
            refine does_on rfl (by kernel_rfl) eg fun K Q' hK => ?_
            clear eg
            replace e14 := e14.trans (congrArg some (if_t hWi))
            replace e16 := e16.trans (congrArg some (if_t hWi))
            have hf : Hid ((.bool (O.alg != Q.alg) : Value) = (if (!((!(O.id.toList == Q.id.toList)) || (O.typ != Q.typ))) = true then .bool (O.alg != Q.alg) else undef)) := (if_t hWi).symm
            clear hWi hc
            go_simp; exact hK _ _ (Grow.refl _) hf.out
        · intro w1 hg Ar seen
          have e12 := seen.de 12 20
          have e17 := seen.de 17 25
          refine does_plain rfl fun K Q' hK => ?_
          by_cases hp0 : (((!(O.id.toList == Q.id.toList)) || (O.typ != Q.typ)) : Bool) = true
          · have hp := hp0
            clear hp0
            rw [hp] at e12
            clear e17
            have hv := hid (by show (Value.bool true) = .bool (((!(O.id.toList == Q.id.toList)) || (O.typ != Q.typ)) || (O.alg != Q.alg)); rw [hp]; rfl)
            clear hp
            go_simp; exact hK _ _ (Grow.refl _) hv.out
          · have hp : (((!(O.id.toList == Q.id.toList)) || (O.typ != Q.typ)) : Bool) = false := by rw [← Bool.not_eq_true]; exact hp0
            clear hp0
            rw [hp] at e12
            replace e17 := e17.trans (congrArg some (if_t (by rw [hp]; rfl)))
            have hv := hid (by show (Value.bool (O.alg != Q.alg)) = .bool (((!(O.id.toList == Q.id.toList)) || (O.typ != Q.typ)) || (O.alg != Q.alg)); rw [hp]; rfl)
            clear hp
            go_simp; exact hK _ _ (Grow.refl _) hv.out
        · intro w1 hg Ar seen
          have e18 := seen.de 18 26
          refine does_plain rfl fun K Q' hK => ?_
          go_simp; exact hK _ _ (Grow.refl _) rfl
        · intro w1 hg Ar seen
          have s2 := seen.sl 2 (.pointer (some ⟨b, 0, none⟩))
          have eg := seen.de 19 27
          by_cases hc0 : ((((!(O.id.toList == Q.id.toList)) || (O.typ != Q.typ)) || (O.alg != Q.alg)) : Bool) = true
          · have hc := hc0
            clear hc0
            rw [hc] at eg
            have hWi : (!(((!(O.id.toList == Q.id.toList)) || (O.typ != Q.typ)) || (O.alg != Q.alg))) = false := by rw [hc]; rfl
            exact does_off rfl (by kernel_rfl) eg ne_tf (Grow.refl _) (show undef = _ from (if_f hWi).symm)
          · have hc : ((((!(O.id.toList == Q.id.toList)) || (O.typ != Q.typ)) || (O.alg != Q.alg)) : Bool) = false := by rw [← Bool.not_eq_true]; exact hc0
            clear hc0
            rw [hc] at eg
            have hWi : (!(((!(O.id.toList == Q.id.toList)) || (O.typ != Q.typ)) || (O.alg != Q.alg))) = true := by rw [hc]; rfl
            refine does_on rfl (by kernel_rfl) eg fun K Q' hK => ?_
            clear eg
            have hf : Hid ((.pointer (some ⟨b, 3, none⟩) : Value) = (if (!(((!(O.id.toList == Q.id.toList)) || (O.typ != Q.typ)) || (O.alg != Q.alg))) = true then .pointer (some ⟨b, 3, none⟩) else undef)) := (if_t hWi).symm
            clear hWi hc
            go_simp; exact hK _ _ (Grow.refl _) hf.out
        · intro w1 hg Ar seen
          have e20 := seen.de 20 28
          have eg := seen.de 19 27
          by_cases hc0 : ((((!(O.id.toList == Q.id.toList)) || (O.typ != Q.typ)) || (O.alg != Q.alg)) : Bool) = true
          · have hc := hc0
            clear hc0
            rw [hc] at eg
            have hWi : (!(((!(O.id.toList == Q.id.toList)) || (O.typ != Q.typ)) || (O.alg != Q.alg))) = false := by rw [hc]; rfl
            exact does_off rfl (by kernel_rfl) eg ne_tf (Grow.refl _) (show undef = _ from (if_f hWi).symm)
          · have hc : ((((!(O.id.toList == Q.id.toList)) || (O.typ != Q.typ)) || (O.alg != Q.alg)) : Bool) = false := by rw [← Bool.not_eq_true]; exact hc0
            clear hc0
            rw [hc] at eg
            have hWi : (!(((!(O.id.toList == Q.id.toList)) || (O.typ != Q.typ)) || (O.alg != Q.alg))) = true := by rw [hc]; rfl
            refine does_on rfl (by kernel_rfl) eg fun K Q' hK => ?_
            clear eg
            replace e20 := e20.trans (congrArg some (if_t hWi))
            have hf : Hid ((.int .i64 O.len : Value) = (if (!(((!(O.id.toList == Q.id.toList)) || (O.typ != Q.typ)) || (O.alg != Q.alg))) = true then .int .i64 O.len else undef)) := (if_t hWi).symm
            clear hWi hc
            have hc0 := cell_of_block (j := 3) ((hg.block _ (block_lt S.out.one)).trans S.out.one) (oc3 O s)
            go_simp; exact hK _ _ (Grow.refl _) hf.out
        · intro w1 hg Ar seen
          have s3 := seen.sl 3 (.pointer (some ⟨b + 1, 0, none⟩))
          have eg := seen.de 19 27
          by_cases hc0 : ((((!(O.id.toList == Q.id.toList)) || (O.typ != Q.typ)) || (O.alg != Q.alg)) : Bool) = true
          · have hc := hc0
            clear hc0
            rw [hc] at eg
            have hWi : (!(((!(O.id.toList == Q.id.toList)) || (O.typ != Q.typ)) || (O.alg != Q.alg))) = false := by rw [hc]; rfl
            exact does_off rfl (by kernel_rfl) eg ne_tf (Grow.refl _) (show undef = _ from (if_f hWi).symm)
          · have hc : ((((!(O.id.toList == Q.id.toList)) || (O.typ != Q.typ)) || (O.alg != Q.alg)) : Bool) = false := by rw [← Bool.not_eq_true]; exact hc0
            clear hc0
            rw [hc] at eg
            have hWi : (!(((!(O.id.toList == Q.id.toList)) || (O.typ != Q.typ)) || (O.alg != Q.alg))) = true := by rw [hc]; rfl
            refine does_on rfl (by kernel_rfl) eg fun K Q' hK => ?_
            clear eg
            have hf : Hid ((.pointer (some ⟨b + 1, 3, none⟩) : Value) = (if (!(((!(O.id.toList == Q.id.toList)) || (O.typ != Q.typ)) || (O.alg != Q.alg))) = true then .pointer (some ⟨b + 1, 3, none⟩) else undef)) := (if_t hWi).symm
            clear hWi hc
            go_simp; exact hK _ _ (Grow.refl _) hf.out
        · intro w1 hg Ar seen
          have e22 := seen.de 22 30
          have eg := seen.de 19 27
          by_cases hc0 : ((((!(O.id.toList == Q.id.toList)) || (O.typ != Q.typ)) || (O.alg != Q.alg)) : Bool) = true
          · have hc := hc0
            clear hc0
            rw [hc] at eg
            have hWi : (!(((!(O.id.toList == Q.id.toList)) || (O.typ != Q.typ)) || (O.alg != Q.alg))) = false := by rw [hc]; rfl
            exact does_off rfl (by kernel_rfl) eg ne_tf (Grow.refl _) (show undef = _ from (if_f hWi).symm)
          · have hc : ((((!(O.id.toList == Q.id.toList)) || (O.typ != Q.typ)) || (O.alg != Q.alg)) : Bool) = false := by rw [← Bool.not_eq_true]; exact hc0
            clear hc0
            rw [hc] at eg
            have hWi : (!(((!(O.id.toList == Q.id.toList)) || (O.typ != Q.typ)) || (O.alg != Q.alg))) = true := by rw [hc]; rfl
            refine does_on rfl (by kernel_rfl) eg fun K Q' hK => ?_
            clear eg
            replace e22 := e22.trans (congrArg some (if_t hWi))
            have hf : Hid ((.int .i64 Q.len : Value) = (if (!(((!(O.id.toList == Q.id.toList)) || (O.typ != Q.typ)) || (O.alg != Q.alg))) = true then .int .i64 Q.len else undef)) := (if_t hWi).symm
            clear hWi hc
            have hc0 := cell_of_block (j := 3) ((hg.block _ (block_lt S.out.two)).trans S.out.two) (oc3 Q t)
            go_simp; exact hK _ _ (Grow.refl _) hf.out
        · intro w1 hg Ar seen
          have e21 := seen.de 21 29
          have e23 := seen.de 23 31
          have eg := seen.de 19 27
          by_cases hc0 : ((((!(O.id.toList == Q.id.toList)) || (O.typ != Q.typ)) || (O.alg != Q.alg)) : Bool) = true
          · have hc := hc0
            clear hc0
            rw [hc] at eg
            have hWi : (!(((!(O.id.toList == Q.id.toList)) || (O.typ != Q.typ)) || (O.alg != Q.alg))) = false := by rw [hc]; rfl
            exact does_off rfl (by kernel_rfl) eg ne_tf (Grow.refl _) (show undef = _ from (if_f hWi).symm)
          · have hc : ((((!(O.id.toList == Q.id.toList)) || (O.typ != Q.typ)) || (O.alg != Q.alg)) : Bool) = false := by rw [← Bool.not_eq_true]; exact hc0
            clear hc0
            rw [hc] at eg
            have hWi : (!(((!(O.id.toList == Q.id.toList)) || (O.typ != Q.typ)) || (O.alg != Q.alg))) = true := by rw [hc]; rfl
            refine does_on rfl (by kernel_rfl) eg fun K Q' hK => ?_
            clear eg
            replace e21 := e21.trans (congrArg some (if_t hWi))
            replace e23 := e23.trans (congrArg some (if_t hWi))
            have hf : Hid ((.bool (O.len != Q.len) : Value) = (if (!(((!(O.id.toList == Q.id.toList)) || (O.typ != Q.typ)) || (O.alg != Q.alg))) = true then .bool (O.len != Q.len) else undef)) := (if_t hWi).symm
            clear hWi hc
            go_simp; exact hK _ _ (Grow.refl _) hf.out
        · intro w1 hg Ar seen
          have e19 := seen.de 19 27
          have e24 := seen.de 24 32
          refine does_plain rfl fun K Q' hK => ?_
          by_cases hp0 : ((((!(O.id.toList == Q.id.toList)) || (O.typ != Q.typ)) || (O.alg != Q.alg)) : Bool) = true
          · have hp := hp0
            clear hp0
            rw [hp] at e19
            clear e24
            have hv := hid (by show (Value.bool true) = .bool ((((!(O.id.toList == Q.id.toList)) || (O.typ != Q.typ)) || (O.alg != Q.alg)) || (O.len != Q.len)); rw [hp]; rfl)
            clear hp
            go_simp; exact hK _ _ (Grow.refl _) hv.out
          · have hp : ((((!(O.id.toList == Q.id.toList)) || (O.typ != Q.typ)) || (O.alg != Q.alg)) : Bool) = false := by rw [← Bool.not_eq_true]; exact hp0
            clear hp0
            rw [hp] at e19
            replace e24 := e24.trans (congrArg some (if_t (by rw [hp]; rfl)))
            have hv := hid (by show (Value.bool (O.len != Q.len)) = .bool ((((!(O.id.toList == Q.id.toList)) || (O.typ != Q.typ)) || (O.alg != Q.alg)) || (O.len != Q.len)); rw [hp]; rfl)
            clear hp
            go_simp; exact hK _ _ (Grow.refl _) hv.out
        · intro w1 hg Ar seen
          have e25 := seen.de 25 33
          refine does_plain rfl fun K Q' hK => ?_
          go_simp; exact hK _ _ (Grow.refl _) rfl
        · intro w1 hg Ar seen
          have s2 := seen.sl 2 (.pointer (some ⟨b, 0, none⟩))
          have eg := seen.de 26 34
          by_cases hc0 : (((((!(O.id.toList == Q.id.toList)) || (O.typ != Q.typ)) || (O.alg != Q.alg)) || (O.len != Q.len)) : Bool) = true
          · have hc := hc0
            clear hc0
            rw [hc] at eg
            have hWi : (!((((!(O.id.toList == Q.id.toList)) || (O.typ != Q.typ)) || (O.alg != Q.alg)) || (O.len != Q.len))) = false := by rw [hc]; rfl
            exact does_off rfl (by kernel_rfl) eg ne_tf (Grow.refl _) (show undef = _ from (if_f hWi).symm)
          · have hc : (((((!(O.id.toList == Q.id.toList)) || (O.typ != Q.typ)) || (O.alg != Q.alg)) || (O.len != Q.len)) : Bool) = false := by rw [← Bool.not_eq_true]; exact hc0
            clear hc0
            rw [hc] at eg
            have hWi : (!((((!(O.id.toList == Q.id.toList)) || (O.typ != Q.typ)) || (O.alg != Q.alg)) || (O.len != Q.len))) = true := by rw [hc]; rfl
            refine does_on rfl (by kernel_rfl) eg fun K Q' hK => ?_
            clear eg
            have hf : Hid ((.pointer (some ⟨b, 4, none⟩) : Value) = (if (!((((!(O.id.toList == Q.id.toList)) || (O.typ != Q.typ)) || (O.alg != Q.alg)) || (O.len != Q.len))) = true then .pointer (some ⟨b, 4, none⟩) else undef)) := (if_t hWi).symm
            clear hWi hc
            go_simp; exact hK _ _ (Grow.refl _) hf.out
        · intro w1 hg Ar seen
          have e27 := seen.de 27 35
          have eg := seen.de 26 34
          by_cases hc0 : (((((!(O.id.toList == Q.id.toList)) || (O.typ != Q.typ)) || (O.alg != Q.alg)) || (O.len != Q.len)) : Bool) = true
          · have hc := hc0
            clear hc0
            rw [hc] at eg
            have hWi : (!((((!(O.id.toList == Q.id.toList)) || (O.typ != Q.typ)) || (O.alg != Q.alg)) || (O.len != Q.len))) = false := by rw [hc]; rfl
            exact does_off rfl (by kernel_rfl) eg ne_tf (Grow.refl _) (show undef = _ from (if_f hWi).symm)
          · have hc : (((((!(O.id.toList == Q.id.toList)) || (O.typ != Q.typ)) || (O.alg != Q.alg)) || (O.len != Q.len)) : Bool) = false := by rw [← Bool.not_eq_true]; exact hc0
            clear hc0
            rw [hc] at eg
            have hWi : (!((((!(O.id.toList == Q.id.toList)) || (O.typ != Q.typ)) || (O.alg != Q.alg)) || (O.len != Q.len))) = true := by rw [hc]; rfl
            refine does_on rfl (by kernel_rfl) eg fun K Q' hK => ?_
            clear eg
            replace e27 := e27.trans (congrArg some (if_t hWi))
            have hf : Hid ((.int .i64 O.mask : Value) = (if (!((((!(O.id.toList == Q.id.toList)) || (O.typ != Q.typ)) || (O.alg != Q.alg)) || (O.len != Q.len))) = true then .int .i64 O.mask else undef)) := (if_t hWi).symm
            clear hWi hc
            have hc0 := cell_of_block (j := 4) ((hg.block _ (block_lt S.out.one)).trans S.out.one) (oc4 O s)
            go_simp; exact hK _ _ (Grow.refl _) hf.out
        · intro w1 hg Ar seen
          have s3 := seen.sl 3 (.pointer (some ⟨b + 1, 0, none⟩))
          have eg := seen.de 26 34
          by_cases hc0 : (((((!(O.id.toList == Q.id.toList)) || (O.typ != Q.typ)) || (O.alg != Q.alg)) || (O.len != Q.len)) : Bool) = true
          · have hc := hc0
            clear hc0
            rw [hc] at eg
            have hWi : (!((((!(O.id.toList == Q.id.toList)) || (O.typ != Q.typ)) || (O.alg != Q.alg)) || (O.len != Q.len))) = false := by rw [hc]; rfl
            exact does_off rfl (by kernel_rfl) eg ne_tf (Grow.refl _) (show undef = _ from (if_f hWi).symm)
          · have hc : (((((!(O.id.toList == Q.id.toList)) || (O.typ != Q.typ)) || (O.alg != Q.alg)) || (O.len != Q.len)) : Bool) = false := by rw [← Bool.not_eq_true]; exact hc0
            clear hc0
            rw [hc] at eg
            have hWi : (!((((!(O.id.toList == Q.id.toList)) || (O.typ != Q.typ)) || (O.alg != Q.alg)) || (O.len != Q.len))) = true := by rw [hc]; rfl
            refine does_on rfl (by kernel_rfl) eg fun K Q' hK => ?_
            clear eg
            have hf : Hid ((.pointer (some ⟨b + 1, 4, none⟩) : Value) = (if (!((((!(O.id.toList == Q.id.toList)) || (O.typ != Q.typ)) || (O.alg != Q.alg)) || (O.len != Q.len))) = true then .pointer (some ⟨b + 1, 4, none⟩) else undef)) := (if_t hWi).symm
            clear hWi hc
            go_simp; exact hK _ _ (Grow.refl _) hf.out
        · intro w1 hg Ar seen
          have e29 := seen.de 29 37
          have eg := seen.de 26 34
          by_cases hc0 : (((((!(O.id.toList == Q.id.toList)) || (O.typ != Q.typ)) || (O.alg != Q.alg)) || (O.len != Q.len)) : Bool) = true
          · have hc := hc0
            clear hc0
            rw [hc] at eg
            have hWi : (!((((!(O.id.toList == Q.id.toList)) || (O.typ != Q.typ)) || (O.alg != Q.alg)) || (O.len != Q.len))) = false := by rw [hc]; rfl
            exact does_off rfl (by kernel_rfl) eg ne_tf (Grow.refl _) (show undef = _ from (if_f hWi).symm)
          · have hc : (((((!(O.id.toList == Q.id.toList)) || (O.typ != Q.typ)) || (O.alg != Q.alg)) || (O.len != Q.len)) : Bool) = false := by rw [← Bool.not_eq_true]; exact hc0
            clear hc0
            rw [hc] at eg
            have hWi : (!((((!(O.id.toList == Q.id.toList)) || (O.typ != Q.typ)) || (O.alg != Q.alg)) || (O.len != Q.len))) = true := by rw [hc]; rfl
            refine does_on rfl (by kernel_rfl) eg fun K Q' hK => ?_
            clear eg
            replace e29 := e29.trans (congrArg some (if_t hWi))
            have hf : Hid ((.int .i64 Q.mask : Value) = (if (!((((!(O.id.toList == Q.id.toList)) || (O.typ != Q.typ)) || (O.alg != Q.alg)) || (O.len != Q.len))) = true then .int .i64 Q.mask else undef)) := (if_t hWi).symm
            clear hWi hc
            have hc0 := cell_of_block (j := 4) ((hg.block _ (block_lt S.out.two)).trans S.out.two) (oc4 Q t)
            go_simp; exact hK _ _ (Grow.refl _) hf.out
        · intro w1 hg Ar seen
          have e28 := seen.de 28 36
          have e30 := seen.de 30 38
          have eg := seen.de 26 34
          by_cases hc0 : (((((!(O.id.toList == Q.id.toList)) || (O.typ != Q.typ)) || (O.alg != Q.alg)) || (O.len != Q.len)) : Bool) = true
          · have hc := hc0
            clear hc0
            rw [hc] at eg
            have hWi : (!((((!(O.id.toList == Q.id.toList)) || (O.typ != Q.typ)) || (O.alg != Q.alg)) || (O.len != Q.len))) = false := by rw [hc]; rfl
            exact does_off rfl (by kernel_rfl) eg ne_tf (Grow.refl _) (show undef = _ from (if_f hWi).symm)
          · have hc : (((((!(O.id.toList == Q.id.toList)) || (O.typ != Q.typ)) || (O.alg != Q.alg)) || (O.len != Q.len)) : Bool) = false := by rw [← Bool.not_eq_true]; exact hc0
            clear hc0
            rw [hc] at eg
            have hWi : (!((((!(O.id.toList == Q.id.toList)) || (O.typ != Q.typ)) || (O.alg != Q.alg)) || (O.len != Q.len))) = true := by rw [hc]; rfl
            refine does_on rfl (by kernel_rfl) eg fun K Q' hK => ?_
            clear eg
            replace e28 := e28.trans (congrArg some (if_t hWi))
            replace e30 := e30.trans (congrArg some (if_t hWi))
            have hf : Hid ((.bool (O.mask != Q.mask) : Value) = (if (!((((!(O.id.toList == Q.id.toList)) || (O.typ != Q.typ)) || (O.alg != Q.alg)) || (O.len != Q.len))) = true then .bool (O.mask != Q.mask) else undef)) := (if_t hWi).symm
            clear hWi hc
            go_simp; exact hK _ _ (Grow.refl _) hf.out
        · intro w1 hg Ar seen
          have e26 := seen.de 26 34
          have e31 := seen.de 31 39
          refine does_plain rfl fun K Q' hK => ?_
          by_cases hp0 : (((((!(O.id.toList == Q.id.toList)) || (O.typ != Q.typ)) || (O.alg != Q.alg)) || (O.len != Q.len)) : Bool) = true
          · have hp := hp0
            clear hp0
            rw [hp] at e26
            clear e31
            have hv := hid (by show (Value.bool true) = .bool (((((!(O.id.toList == Q.id.toList)) || (O.typ != Q.typ)) || (O.alg != Q.alg)) || (O.len != Q.len)) || (O.mask != Q.mask)); rw [hp]; rfl)
            clear hp
            go_simp; exact hK _ _ (Grow.refl _) hv.out
          · have hp : (((((!(O.id.toList == Q.id.toList)) || (O.typ != Q.typ)) || (O.alg != Q.alg)) || (O.len != Q.len)) : Bool) = false := by rw [← Bool.not_eq_true]; exact hp0
            clear hp0
            rw [hp] at e26
            replace e31 := e31.trans (congrArg some (if_t (by rw [hp]; rfl)))
            have hv := hid (by show (Value.bool (O.mask != Q.mask)) = .bool (((((!(O.id.toList == Q.id.toList)) || (O.typ != Q.typ)) || (O.alg != Q.alg)) || (O.len != Q.len)) || (O.mask != Q.mask)); rw [hp]; rfl)
            clear hp
            go_simp; exact hK _ _ (Grow.refl _) hv.out
        · intro w1 hg Ar seen
          have e32 := seen.de 32 40
          refine does_plain rfl fun K Q' hK => ?_
          go_simp; exact hK _ _ (Grow.refl _) rfl
        · intro w1 hg Ar seen
          have s2 := seen.sl 2 (.pointer (some ⟨b, 0, none⟩))
          have eg := seen.de 33 41
          by_cases hc0 : ((((((!(O.id.toList == Q.id.toList)) || (O.typ != Q.typ)) || (O.alg != Q.alg)) || (O.len != Q.len)) || (O.mask != Q.mask)) : Bool) = true
          · have hc := hc0
            clear hc0
            rw [hc] at eg
            have hWi : (!(((((!(O.id.toList == Q.id.toList)) || (O.typ != Q.typ)) || (O.alg != Q.alg)) || (O.len != Q.len)) || (O.mask != Q.mask))) = false := by rw [hc]; rfl
            exact does_off rfl (by kernel_rfl) eg ne_tf (Grow.refl _) (show undef = _ from (if_f hWi).symm)
          · have hc : ((((((!(O.id.toList == Q.id.toList)) || (O.typ != Q.typ)) || (O.alg != Q.alg)) || (O.len != Q.len)) || (O.mask != Q.mask)) : Bool) = false := by rw [← Bool.not_eq_true]; exact hc0
            clear hc0
            rw [hc] at eg
            have hWi : (!(((((!(O.id.toList == Q.id.toList)) || (O.typ != Q.typ)) || (O.alg != Q.alg)) || (O.len != Q.len)) || (O.mask != Q.mask))) = true := by rw [hc]; rfl
            refine does_on rfl (by kernel_rfl) eg fun K Q' hK => ?_
            clear eg
            have hf : Hid ((.pointer (some ⟨b, 5, none⟩) : Value) = (if (!(((((!(O.id.toList == Q.id.toList)) || (O.typ != Q.typ)) || (O.alg != Q.alg)) || (O.len != Q.len)) || (O.mask != Q.mask))) = true then .pointer (some ⟨b, 5, none⟩) else undef)) := (if_t hWi).symm
            clear hWi hc
            go_simp; exact hK _ _ (Grow.refl _) hf.out
        · intro w1 hg Ar seen
          have e34 := seen.de 34 42
          have eg := seen.de 33 41
          by_cases hc0 : ((((((!(O.id.toList == Q.id.toList)) || (O.typ != Q.typ)) || (O.alg != Q.alg)) || (O.len != Q.len)) || (O.mask != Q.mask)) : Bool) = true
          · have hc := hc0
            clear hc0
            rw [hc] at eg
            have hWi : (!(((((!(O.id.toList == Q.id.toList)) || (O.typ != Q.typ)) || (O.alg != Q.alg)) || (O.len != Q.len)) || (O.mask != Q.mask))) = false := by rw [hc]; rfl
            exact does_off rfl (by kernel_rfl) eg ne_tf (Grow.refl _) (show undef = _ from (if_f hWi).symm)
          · have hc : ((((((!(O.id.toList == Q.id.toList)) || (O.typ != Q.typ)) || (O.alg != Q.alg)) || (O.len != Q.len)) || (O.mask != Q.mask)) : Bool) = false := by rw [← Bool.not_eq_true]; exact hc0
            clear hc0
            rw [hc] at eg
            have hWi : (!(((((!(O.id.toList == Q.id.toList)) || (O.typ != Q.typ)) || (O.alg != Q.alg)) || (O.len != Q.len)) || (O.mask != Q.mask))) = true := by rw [hc]; rfl
            refine does_on rfl (by kernel_rfl) eg fun K Q' hK => ?_
            clear eg
            replace e34 := e34.trans (congrArg some (if_t hWi))
            have hf : Hid ((.slice s.mat.a s.mat.n s.mat.c : Value) = (if (!(((((!(O.id.toList == Q.id.toList)) || (O.typ != Q.typ)) || (O.alg != Q.alg)) || (O.len != Q.len)) || (O.mask != Q.mask))) = true then .slice s.mat.a s.mat.n s.mat.c else undef)) := (if_t hWi).symm
            clear hWi hc
            have hc0 := cell_of_block (j := 5) ((hg.block _ (block_lt S.out.one)).trans S.out.one) (oc5 O s)
            go_simp; exact hK _ _ (Grow.refl _) hf.out
        · intro w1 hg Ar seen
          have e35 := seen.de 35 43
          have eg := seen.de 33 41
          by_cases hc0 : ((((((!(O.id.toList == Q.id.toList)) || (O.typ != Q.typ)) || (O.alg != Q.alg)) || (O.len != Q.len)) || (O.mask != Q.mask)) : Bool) = true
          · have hc := hc0
            clear hc0
            rw [hc] at eg
            have hWi : (!(((((!(O.id.toList == Q.id.toList)) || (O.typ != Q.typ)) || (O.alg != Q.alg)) || (O.len != Q.len)) || (O.mask != Q.mask))) = false := by rw [hc]; rfl
            exact does_off rfl (by kernel_rfl) eg ne_tf (Grow.refl _) (show undef = _ from (if_f hWi).symm)
          · have hc : ((((((!(O.id.toList == Q.id.toList)) || (O.typ != Q.typ)) || (O.alg != Q.alg)) || (O.len != Q.len)) || (O.mask != Q.mask)) : Bool) = false := by rw [← Bool.not_eq_true]; exact hc0
            clear hc0
            rw [hc] at eg
            have hWi : (!(((((!(O.id.toList == Q.id.toList)) || (O.typ != Q.typ)) || (O.alg != Q.alg)) || (O.len != Q.len)) || (O.mask != Q.mask))) = true := by rw [hc]; rfl
            refine does_on rfl (by kernel_rfl) eg fun K Q' hK => ?_
            clear eg
            replace e35 := e35.trans (congrArg some (if_t hWi))
            have hf : Hid ((.string m1 : Value) = (if (!(((((!(O.id.toList == Q.id.toList)) || (O.typ != Q.typ)) || (O.alg != Q.alg)) || (O.len != Q.len)) || (O.mask != Q.mask))) = true then .string m1 else undef)) := (if_t hWi).symm
            clear hWi hc
            have hq := HAM.out w1 hg
            go_simp; exact hK _ _ (Grow.refl _) hf.out
        · intro w1 hg Ar seen
          have s3 := seen.sl 3 (.pointer (some ⟨b + 1, 0, none⟩))
          have eg := seen.de 33 41
          by_cases hc0 : ((((((!(O.id.toList == Q.id.toList)) || (O.typ != Q.typ)) || (O.alg != Q.alg)) || (O.len != Q.len)) || (O.mask != Q.mask)) : Bool) = true
          · have hc := hc0
            clear hc0
            rw [hc] at eg
            have hWi : (!(((((!(O.id.toList == Q.id.toList)) || (O.typ != Q.typ)) || (O.alg != Q.alg)) || (O.len != Q.len)) || (O.mask != Q.mask))) = false := by rw [hc]; rfl
            exact does_off rfl (by kernel_rfl) eg ne_tf (Grow.refl _) (show undef = _ from (if_f hWi).symm)
          · have hc : ((((((!(O.id.toList == Q.id.toList)) || (O.typ != Q.typ)) || (O.alg != Q.alg)) || (O.len != Q.len)) || (O.mask != Q.mask)) : Bool) = false := by rw [← Bool.not_eq_true]; exact hc0
            clear hc0
            rw [hc] at eg
            have hWi : (!(((((!(O.id.toList == Q.id.toList)) || (O.typ != Q.typ)) || (O.alg != Q.alg)) || (O.len != Q.len)) || (O.mask != Q.mask))) = true := by rw [hc]; rfl
            refine does_on rfl (by kernel_rfl) eg fun K Q' hK => ?_
            clear eg
            have hf : Hid ((.pointer (some ⟨b + 1, 5, none⟩) : Value) = (if (!(((((!(O.id.toList == Q.id.toList)) || (O.typ != Q.typ)) || (O.alg != Q.alg)) || (O.len != Q.len)) || (O.mask != Q.mask))) = true then .pointer (some ⟨b + 1, 5, none⟩) else undef)) := (if_t hWi).symm
            clear hWi hc
            go_simp; exact hK _ _ (Grow.refl _) hf.out
        · intro w1 hg Ar seen
          have e37 := seen.de 37 45
          have eg := seen.de 33 41
          by_cases hc0 : ((((((!(O.id.toList == Q.id.toList)) || (O.typ != Q.typ)) || (O.alg != Q.alg)) || (O.len != Q.len)) || (O.mask != Q.mask)) : Bool) = true
          · have hc := hc0
            clear hc0
            rw [hc] at eg
            have hWi : (!(((((!(O.id.toList == Q.id.toList)) || (O.typ != Q.typ)) || (O.alg != Q.alg)) || (O.len != Q.len)) || (O.mask != Q.mask))) = false := by rw [hc]; rfl
            exact does_off rfl (by kernel_rfl) eg ne_tf (Grow.refl _) (show undef = _ from (if_f hWi).symm)
          · have hc : ((((((!(O.id.toList == Q.id.toList)) || (O.typ != Q.typ)) || (O.alg != Q.alg)) || (O.len != Q.len)) || (O.mask != Q.mask)) : Bool) = false := by rw [← Bool.not_eq_true]; exact hc0
            clear hc0
            rw [hc] at eg
            have hWi : (!(((((!(O.id.toList == Q.id.toList)) || (O.typ != Q.typ)) || (O.alg != Q.alg)) || (O.len != Q.len)) || (O.mask != Q.mask))) = true := by rw [hc]; rfl
            refine does_on rfl (by kernel_rfl) eg fun K Q' hK => ?_
            clear eg
            replace e37 := e37.trans (congrArg some (if_t hWi))
            have hf : Hid ((.slice t.mat.a t.mat.n t.mat.c : Value) = (if (!(((((!(O.id.toList == Q.id.toList)) || (O.typ != Q.typ)) || (O.alg != Q.alg)) || (O.len != Q.len)) || (O.mask != Q.mask))) = true then .slice t.mat.a t.mat.n t.mat.c else undef)) := (if_t hWi).symm
            clear hWi hc
            have hc0 := cell_of_block (j := 5) ((hg.block _ (block_lt S.out.two)).trans S.out.two) (oc5 Q t)
            go_simp; exact hK _ _ (Grow.refl _) hf.out
        · intro w1 hg Ar seen
          have e38 := seen.de 38 46
          have eg := seen.de 33 41
          by_cases hc0 : ((((((!(O.id.toList == Q.id.toList)) || (O.typ != Q.typ)) || (O.alg != Q.alg)) || (O.len != Q.len)) || (O.mask != Q.mask)) : Bool) = true
          · have hc := hc0
            clear hc0
            rw [hc] at eg
            have hWi : (!(((((!(O.id.toList == Q.id.toList)) || (O.typ != Q.typ)) || (O.alg != Q.alg)) || (O.len != Q.len)) || (O.mask != Q.mask))) = false := by rw [hc]; rfl
            exact does_off rfl (by kernel_rfl) eg ne_tf (Grow.refl _) (show undef = _ from (if_f hWi).symm)
          · have hc : ((((((!(O.id.toList == Q.id.toList)) || (O.typ != Q.typ)) || (O.alg != Q.alg)) || (O.len != Q.len)) || (O.mask != Q.mask)) : Bool) = false := by rw [← Bool.not_eq_true]; exact hc0
            clear hc0
            rw [hc] at eg
            have hWi : (!(((((!(O.id.toList == Q.id.toList)) || (O.typ != Q.typ)) || (O.alg != Q.alg)) || (O.len != Q.len)) || (O.mask != Q.mask))) = true := by rw [hc]; rfl
            refine does_on rfl (by kernel_rfl) eg fun K Q' hK => ?_
            clear eg
            replace e38 := e38.trans (congrArg some (if_t hWi))
            have hf : Hid ((.string m2 : Value) = (if (!(((((!(O.id.toList == Q.id.toList)) || (O.typ != Q.typ)) || (O.alg != Q.alg)) || (O.len != Q.len)) || (O.mask != Q.mask))) = true then .string m2 else undef)) := (if_t hWi).symm
            clear hWi hc
            have hq := HBM.out w1 hg
            go_simp; exact hK _ _ (Grow.refl _) hf.out
        · intro w1 hg Ar seen
          have e36 := seen.de 36 44
          have e39 := seen.de 39 47
          have eg := seen.de 33 41
          by_cases hc0 : ((((((!(O.id.toList == Q.id.toList)) || (O.typ != Q.typ)) || (O.alg != Q.alg)) || (O.len != Q.len)) || (O.mask != Q.mask)) : Bool) = true
          · have hc := hc0
            clear hc0
            rw [hc] at eg
            have hWi : (!(((((!(O.id.toList == Q.id.toList)) || (O.typ != Q.typ)) || (O.alg != Q.alg)) || (O.len != Q.len)) || (O.mask != Q.mask))) = false := by rw [hc]; rfl
            exact does_off rfl (by kernel_rfl) eg ne_tf (Grow.refl _) (show undef = _ from (if_f hWi).symm)
          · have hc : ((((((!(O.id.toList == Q.id.toList)) || (O.typ != Q.typ)) || (O.alg != Q.alg)) || (O.len != Q.len)) || (O.mask != Q.mask)) : Bool) = false := by rw [← Bool.not_eq_true]; exact hc0
            clear hc0
            rw [hc] at eg
            have hWi : (!(((((!(O.id.toList == Q.id.toList)) || (O.typ != Q.typ)) || (O.alg != Q.alg)) || (O.len != Q.len)) || (O.mask != Q.mask))) = true := by rw [hc]; rfl
            refine does_on rfl (by kernel_rfl) eg fun K Q' hK => ?_
            clear eg
            replace e36 := e36.trans (congrArg some (if_t hWi))
            replace e39 := e39.trans (congrArg some (if_t hWi))
            have hf : Hid ((.bool (!(m1.toList == m2.toList)) : Value) = (if (!(((((!(O.id.toList == Q.id.toList)) || (O.typ != Q.typ)) || (O.alg != Q.alg)) || (O.len != Q.len)) || (O.mask != Q.mask))) = true then .bool (!(m1.toList == m2.toList)) else undef)) := (if_t hWi).symm
            clear hWi hc
            go_simp; exact hK _ _ (Grow.refl _) hf.out
        · intro w1 hg Ar seen
          have e33 := seen.de 33 41
          have e40 := seen.de 40 48
          refine does_plain rfl fun K Q' hK => ?_
          by_cases hp0 : ((((((!(O.id.toList == Q.id.toList)) || (O.typ != Q.typ)) || (O.alg != Q.alg)) || (O.len != Q.len)) || (O.mask != Q.mask)) : Bool) = true
          · have hp := hp0
            clear hp0
            rw [hp] at e33
            clear e40
            have hv := hid (by show (Value.bool true) = .bool ((((((!(O.id.toList == Q.id.toList)) || (O.typ != Q.typ)) || (O.alg != Q.alg)) || (O.len != Q.len)) || (O.mask != Q.mask)) || (!(m1.toList == m2.toList))); rw [hp]; rfl)
            clear hp
            go_simp; exact hK _ _ (Grow.refl _) hv.out
          · have hp : ((((((!(O.id.toList == Q.id.toList)) || (O.typ != Q.typ)) || (O.alg != Q.alg)) || (O.len != Q.len)) || (O.mask != Q.mask)) : Bool) = false := by rw [← Bool.not_eq_true]; exact hp0
            clear hp0
            rw [hp] at e33
            replace e40 := e40.trans (congrArg some (if_t (by rw [hp]; rfl)))
            have hv := hid (by show (Value.bool (!(m1.toList == m2.toList))) = .bool ((((((!(O.id.toList == Q.id.toList)) || (O.typ != Q.typ)) || (O.alg != Q.alg)) || (O.len != Q.len)) || (O.mask != Q.mask)) || (!(m1.toList == m2.toList))); rw [hp]; rfl)
            clear hp
            go_simp; exact hK _ _ (Grow.refl _) hv.out
        · intro w1 hg Ar seen
          have e41 := seen.de 41 49
          refine does_plain rfl fun K Q' hK => ?_
          go_simp; exact hK _ _ (Grow.refl _) rfl
        · intro w1 hg Ar seen
          have s2 := seen.sl 2 (.pointer (some ⟨b, 0, none⟩))
          have eg := seen.de 42 50
          by_cases hc0 : (((((((!(O.id.toList == Q.id.toList)) || (O.typ != Q.typ)) || (O.alg != Q.alg)) || (O.len != Q.len)) || (O.mask != Q.mask)) || (!(m1.toList == m2.toList))) : Bool) = true
          · have hc := hc0
            clear hc0
            rw [hc] at eg
            have hWi : (!((((((!(O.id.toList == Q.id.toList)) || (O.typ != Q.typ)) || (O.alg != Q.alg)) || (O.len != Q.len)) || (O.mask != Q.mask)) || (!(m1.toList == m2.toList)))) = false := by rw [hc]; rfl
            exact does_off rfl (by kernel_rfl) eg ne_tf (Grow.refl _) (show undef = _ from (if_f hWi).symm)
          · have hc : (((((((!(O.id.toList == Q.id.toList)) || (O.typ != Q.typ)) || (O.alg != Q.alg)) || (O.len != Q.len)) || (O.mask != Q.mask)) || (!(m1.toList == m2.toList))) : Bool) = false := by rw [← Bool.not_eq_true]; exact hc0
            clear hc0
            rw [hc] at eg
            have hWi : (!((((((!(O.id.toList == Q.id.toList)) || (O.typ != Q.typ)) || (O.alg != Q.alg)) || (O.len != Q.len)) || (O.mask != Q.mask)) || (!(m1.toList == m2.toList)))) = true := by rw [hc]; rfl
            refine does_on rfl (by kernel_rfl) eg fun K Q' hK => ?_
            clear eg
            have hf : Hid ((.pointer (some ⟨b, 6, none⟩) : Value) = (if (!((((((!(O.id.toList == Q.id.toList)) || (O.typ != Q.typ)) || (O.alg != Q.alg)) || (O.len != Q.len)) || (O.mask != Q.mask)) || (!(m1.toList == m2.toList)))) = true then .pointer (some ⟨b, 6, none⟩) else undef)) := (if_t hWi).symm
            clear hWi hc
            go_simp; exact hK _ _ (Grow.refl _) hf.out
        · intro w1 hg Ar seen
          have e43 := seen.de 43 51
          have eg := seen.de 42 50
          by_cases hc0 : (((((((!(O.id.toList == Q.id.toList)) || (O.typ != Q.typ)) || (O.alg != Q.alg)) || (O.len != Q.len)) || (O.mask != Q.mask)) || (!(m1.toList == m2.toList))) : Bool) = true
          · have hc := hc0
            clear hc0
            rw [hc] at eg
            have hWi : (!((((((!(O.id.toList == Q.id.toList)) || (O.typ != Q.typ)) || (O.alg != Q.alg)) || (O.len != Q.len)) || (O.mask != Q.mask)) || (!(m1.toList == m2.toList)))) = false := by rw [hc]; rfl
            exact does_off rfl (by kernel_rfl) eg ne_tf (Grow.refl _) (show undef = _ from (if_f hWi).symm)
          · have hc : (((((((!(O.id.toList == Q.id.toList)) || (O.typ != Q.typ)) || (O.alg != Q.alg)) || (O.len != Q.len)) || (O.mask != Q.mask)) || (!(m1.toList == m2.toList))) : Bool) = false := by rw [← Bool.not_eq_true]; exact hc0
            clear hc0
            rw [hc] at eg
            have hWi : (!((((((!(O.id.toList == Q.id.toList)) || (O.typ != Q.typ)) || (O.alg != Q.alg)) || (O.len != Q.len)) || (O.mask != Q.mask)) || (!(m1.toList == m2.toList)))) = true := by rw [hc]; rfl
            refine does_on rfl (by kernel_rfl) eg fun K Q' hK => ?_
            clear eg
            replace e43 := e43.trans (congrArg some (if_t hWi))
            have hf : Hid ((.int .i64 O.st : Value) = (if (!((((((!(O.id.toList == Q.id.toList)) || (O.typ != Q.typ)) || (O.alg != Q.alg)) || (O.len != Q.len)) || (O.mask != Q.mask)) || (!(m1.toList == m2.toList)))) = true then .int .i64 O.st else undef)) := (if_t hWi).symm
            clear hWi hc
            have hc0 := cell_of_block (j := 6) ((hg.block _ (block_lt S.out.one)).trans S.out.one) (oc6 O s)
            go_simp; exact hK _ _ (Grow.refl _) hf.out
        · intro w1 hg Ar seen
          have s3 := seen.sl 3 (.pointer (some ⟨b + 1, 0, none⟩))
          have eg := seen.de 42 50
          by_cases hc0 : (((((((!(O.id.toList == Q.id.toList)) || (O.typ != Q.typ)) || (O.alg != Q.alg)) || (O.len != Q.len)) || (O.mask != Q.mask)) || (!(m1.toList == m2.toList))) : Bool) = true
          · have hc := hc0
            clear hc0
            rw [hc] at eg
            have hWi : (!((((((!(O.id.toList == Q.id.toList)) || (O.typ != Q.typ)) || (O.alg != Q.alg)) || (O.len != Q.len)) || (O.mask != Q.mask)) || (!(m1.toList == m2.toList)))) = false := by rw [hc]; rfl
            exact does_off rfl (by kernel_rfl) eg ne_tf (Grow.refl _) (show undef = _ from (if_f hWi).symm)
          · have hc : (((((((!(O.id.toList == Q.id.toList)) || (O.typ != Q.typ)) || (O.alg != Q.alg)) || (O.len != Q.len)) || (O.mask != Q.mask)) || (!(m1.toList == m2.toList))) : Bool) = false := by rw [← Bool.not_eq_true]; exact hc0
            clear hc0
            rw [hc] at eg
            have hWi : (!((((((!(O.id.toList == Q.id.toList)) || (O.typ != Q.typ)) || (O.alg != Q.alg)) || (O.len != Q.len)) || (O.mask != Q.mask)) || (!(m1.toList == m2.toList)))) = true := by rw [hc]; rfl
            refine does_on rfl (by kernel_rfl) eg fun K Q' hK => ?_
            clear eg
            have hf : Hid ((.pointer (some ⟨b + 1, 6, none⟩) : Value) = (if (!((((((!(O.id.toList == Q.id.toList)) || (O.typ != Q.typ)) || (O.alg != Q.alg)) || (O.len != Q.len)) || (O.mask != Q.mask)) || (!(m1.toList == m2.toList)))) = true then .pointer (some ⟨b + 1, 6, none⟩) else undef)) := (if_t hWi).symm
            clear hWi hc
            go_simp; exact hK _ _ (Grow.refl _) hf.out
        · intro w1 hg Ar seen
          have e45 := seen.de 45 53
          have eg := seen.de 42 50
          by_cases hc0 : (((((((!(O.id.toList == Q.id.toList)) || (O.typ != Q.typ)) || (O.alg != Q.alg)) || (O.len != Q.len)) || (O.mask != Q.mask)) || (!(m1.toList == m2.toList))) : Bool) = true
          · have hc := hc0
            clear hc0
            rw [hc] at eg
            have hWi : (!((((((!(O.id.toList == Q.id.toList)) || (O.typ != Q.typ)) || (O.alg != Q.alg)) || (O.len != Q.len)) || (O.mask != Q.mask)) || (!(m1.toList == m2.toList)))) = false := by rw [hc]; rfl
            exact does_off rfl (by kernel_rfl) eg ne_tf (Grow.refl _) (show undef = _ from (if_f hWi).symm)
          · have hc : (((((((!(O.id.toList == Q.id.toList)) || (O.typ != Q.typ)) || (O.alg != Q.alg)) || (O.len != Q.len)) || (O.mask != Q.mask)) || (!(m1.toList == m2.toList))) : Bool) = false := by rw [← Bool.not_eq_true]; exact hc0
            clear hc0
            rw [hc] at eg
            have hWi : (!((((((!(O.id.toList == Q.id.toList)) || (O.typ != Q.typ)) || (O.alg != Q.alg)) || (O.len != Q.len)) || (O.mask != Q.mask)) || (!(m1.toList == m2.toList)))) = true := by rw [hc]; rfl
            refine does_on rfl (by kernel_rfl) eg fun K Q' hK => ?_
            clear eg
            replace e45 := e45.trans (congrArg some (if_t hWi))
            have hf : Hid ((.int .i64 Q.st : Value) = (if (!((((((!(O.id.toList == Q.id.toList)) || (O.typ != Q.typ)) || (O.alg != Q.alg)) || (O.len != Q.len)) || (O.mask != Q.mask)) || (!(m1.toList == m2.toList)))) = true then .int .i64 Q.st else undef)) := (if_t hWi).symm
            clear hWi hc
            have hc0 := cell_of_block (j := 6) ((hg.block _ (block_lt S.out.two)).trans S.out.two) (oc6 Q t)
            go_simp; exact hK _ _ (Grow.refl _) hf.out
        · intro w1 hg Ar seen
          have e44 := seen.de 44 52
          have e46 := seen.de 46 54
          have eg := seen.de 42 50
          by_cases hc0 : (((((((!(O.id.toList == Q.id.toList)) || (O.typ != Q.typ)) || (O.alg != Q.alg)) || (O.len != Q.len)) || (O.mask != Q.mask)) || (!(m1.toList == m2.toList))) : Bool) = true
          · have hc := hc0
            clear hc0
            rw [hc] at eg
            have hWi : (!((((((!(O.id.toList == Q.id.toList)) || (O.typ != Q.typ)) || (O.alg != Q.alg)) || (O.len != Q.len)) || (O.mask != Q.mask)) || (!(m1.toList == m2.toList)))) = false := by rw [hc]; rfl
            exact does_off rfl (by kernel_rfl) eg ne_tf (Grow.refl _) (show undef = _ from (if_f hWi).symm)
          · have hc : (((((((!(O.id.toList == Q.id.toList)) || (O.typ != Q.typ)) || (O.alg != Q.alg)) || (O.len != Q.len)) || (O.mask != Q.mask)) || (!(m1.toList == m2.toList))) : Bool) = false := by rw [← Bool.not_eq_true]; exact hc0
            clear hc0
            rw [hc] at eg
            have hWi : (!((((((!(O.id.toList == Q.id.toList)) || (O.typ != Q.typ)) || (O.alg != Q.alg)) || (O.len != Q.len)) || (O.mask != Q.mask)) || (!(m1.toList == m2.toList)))) = true := by rw [hc]; rfl
            refine does_on rfl (by kernel_rfl) eg fun K Q' hK => ?_
            clear eg
            replace e44 := e44.trans (congrArg some (if_t hWi))
            replace e46 := e46.trans (congrArg some (if_t hWi))
            have hf : Hid ((.bool (O.st != Q.st) : Value) = (if (!((((((!(O.id.toList == Q.id.toList)) || (O.typ != Q.typ)) || (O.alg != Q.alg)) || (O.len != Q.len)) || (O.mask != Q.mask)) || (!(m1.toList == m2.toList)))) = true then .bool (O.st != Q.st) else undef)) := (if_t hWi).symm
            clear hWi hc
            go_simp; exact hK _ _ (Grow.refl _) hf.out
        · intro w1 hg Ar seen
          have e42 := seen.de 42 50
          have e47 := seen.de 47 55
          refine does_plain rfl fun K Q' hK => ?_
          by_cases hp0 : (((((((!(O.id.toList == Q.id.toList)) || (O.typ != Q.typ)) || (O.alg != Q.alg)) || (O.len != Q.len)) || (O.mask != Q.mask)) || (!(m1.toList == m2.toList))) : Bool) = true
          · have hp := hp0
            clear hp0
            rw [hp] at e42
            clear e47
            have hv := hid (by show (Value.bool true) = .bool (((((((!(O.id.toList == Q.id.toList)) || (O.typ != Q.typ)) || (O.alg != Q.alg)) || (O.len != Q.len)) || (O.mask != Q.mask)) || (!(m1.toList == m2.toList))) || (O.st != Q.st)); rw [hp]; rfl)
            clear hp
            go_simp; exact hK _ _ (Grow.refl _) hv.out
          · have hp : (((((((!(O.id.toList == Q.id.toList)) || (O.typ != Q.typ)) || (O.alg != Q.alg)) || (O.len != Q.len)) || (O.mask != Q.mask)) || (!(m1.toList == m2.toList))) : Bool) = false := by rw [← Bool.not_eq_true]; exact hp0
            clear hp0
            rw [hp] at e42
            replace e47 := e47.trans (congrArg some (if_t (by rw [hp]; rfl)))
            have hv := hid (by show (Value.bool (O.st != Q.st)) = .bool (((((((!(O.id.toList == Q.id.toList)) || (O.typ != Q.typ)) || (O.alg != Q.alg)) || (O.len != Q.len)) || (O.mask != Q.mask)) || (!(m1.toList == m2.toList))) || (O.st != Q.st)); rw [hp]; rfl)
            clear hp
            go_simp; exact hK _ _ (Grow.refl _) hv.out
        · intro w1 hg Ar seen
          have e48 := seen.de 48 56
          refine does_plain rfl fun K Q' hK => ?_
          go_simp; exact hK _ _ (Grow.refl _) rfl
        · intro w1 hg Ar seen
          have s2 := seen.sl 2 (.pointer (some ⟨b, 0, none⟩))
          have eg := seen.de 49 57
          by_cases hc0 : ((((((((!(O.id.toList == Q.id.toList)) || (O.typ != Q.typ)) || (O.alg != Q.alg)) || (O.len != Q.len)) || (O.mask != Q.mask)) || (!(m1.toList == m2.toList))) || (O.st != Q.st)) : Bool) = true
          · have hc := hc0
            clear hc0
            rw [hc] at eg
            have hWi : (!(((((((!(O.id.toList == Q.id.toList)) || (O.typ != Q.typ)) || (O.alg != Q.alg)) || (O.len != Q.len)) || (O.mask != Q.mask)) || (!(m1.toList == m2.toList))) || (O.st != Q.st))) = false := by rw [hc]; rfl
            exact does_off rfl (by kernel_rfl) eg ne_tf (Grow.refl _) (show undef = _ from (if_f hWi).symm)
          · have hc : ((((((((!(O.id.toList == Q.id.toList)) || (O.typ != Q.typ)) || (O.alg != Q.alg)) || (O.len != Q.len)) || (O.mask != Q.mask)) || (!(m1.toList == m2.toList))) || (O.st != Q.st)) : Bool) = false := by rw [← Bool.not_eq_true]; exact hc0
            clear hc0
            rw [hc] at eg
            have hWi : (!(((((((!(O.id.toList == Q.id.toList)) || (O.typ != Q.typ)) || (O.alg != Q.alg)) || (O.len != Q.len)) || (O.mask != Q.mask)) || (!(m1.toList == m2.toList))) || (O.st != Q.st))) = true := by rw [hc]; rfl
            refine does_on rfl (by kernel_rfl) eg fun K Q' hK => ?_
            clear eg
            have hf : Hid ((.pointer (some ⟨b, 7, none⟩) : Value) = (if (!(((((((!(O.id.toList == Q.id.toList)) || (O.typ != Q.typ)) || (O.alg != Q.alg)) || (O.len != Q.len)) || (O.mask != Q.mask)) || (!(m1.toList == m2.toList))) || (O.st != Q.st))) = true then .pointer (some ⟨b, 7, none⟩) else undef)) := (if_t hWi).symm
            clear hWi hc
            go_simp; exact hK _ _ (Grow.refl _) hf.out
        · intro w1 hg Ar seen
          have e50 := seen.de 50 58
          have eg := seen.de 49 57
          by_cases hc0 : ((((((((!(O.id.toList == Q.id.toList)) || (O.typ != Q.typ)) || (O.alg != Q.alg)) || (O.len != Q.len)) || (O.mask != Q.mask)) || (!(m1.toList == m2.toList))) || (O.st != Q.st)) : Bool) = true
          · have hc := hc0
            clear hc0
            rw [hc] at eg
            have hWi : (!(((((((!(O.id.toList == Q.id.toList)) || (O.typ != Q.typ)) || (O.alg != Q.alg)) || (O.len != Q.len)) || (O.mask != Q.mask)) || (!(m1.toList == m2.toList))) || (O.st != Q.st))) = false := by rw [hc]; rfl
            exact does_off rfl (by kernel_rfl) eg ne_tf (Grow.refl _) (show undef = _ from (if_f hWi).symm)
          · have hc : ((((((((!(O.id.toList == Q.id.toList)) || (O.typ != Q.typ)) || (O.alg != Q.alg)) || (O.len != Q.len)) || (O.mask != Q.mask)) || (!(m1.toList == m2.toList))) || (O.st != Q.st)) : Bool) = false := by rw [← Bool.not_eq_true]; exact hc0
            clear hc0
            rw [hc] at eg
            have hWi : (!(((((((!(O.id.toList == Q.id.toList)) || (O.typ != Q.typ)) || (O.alg != Q.alg)) || (O.len != Q.len)) || (O.mask != Q.mask)) || (!(m1.toList == m2.toList))) || (O.st != Q.st))) = true := by rw [hc]; rfl
            refine does_on rfl (by kernel_rfl) eg fun K Q' hK => ?_
            clear eg
            replace e50 := e50.trans (congrArg some (if_t hWi))
            have hf : Hid ((.agg d1.toArray : Value) = (if (!(((((((!(O.id.toList == Q.id.toList)) || (O.typ != Q.typ)) || (O.alg != Q.alg)) || (O.len != Q.len)) || (O.mask != Q.mask)) || (!(m1.toList == m2.toList))) || (O.st != Q.st))) = true then .agg d1.toArray else undef)) := (if_t hWi).symm
            clear hWi hc
            refine wp_load_mid 28 _ rfl b 7 (by simp [Act.eval, e50]) d1 _ (Grow.ofRange HAD.out hg) Tryd.underlying28 rfl HD1S.out ?_
            exact hK _ _ (Grow.refl _) hf.out
        · intro w1 hg Ar seen
          have s3 := seen.sl 3 (.pointer (some ⟨b + 1, 0, none⟩))
          have eg := seen.de 49 57
          by_cases hc0 : ((((((((!(O.id.toList == Q.id.toList)) || (O.typ != Q.typ)) || (O.alg != Q.alg)) || (O.len != Q.len)) || (O.mask != Q.mask)) || (!(m1.toList == m2.toList))) || (O.st != Q.st)) : Bool) = true
          · have hc := hc0
            clear hc0
            rw [hc] at eg
            have hWi : (!(((((((!(O.id.toList == Q.id.toList)) || (O.typ != Q.typ)) || (O.alg != Q.alg)) || (O.len != Q.len)) || (O.mask != Q.mask)) || (!(m1.toList == m2.toList))) || (O.st != Q.st))) = false := by rw [hc]; rfl
            exact does_off rfl (by kernel_rfl) eg ne_tf (Grow.refl _) (show undef = _ from (if_f hWi).symm)
          · have hc : ((((((((!(O.id.toList == Q.id.toList)) || (O.typ != Q.typ)) || (O.alg != Q.alg)) || (O.len != Q.len)) || (O.mask != Q.mask)) || (!(m1.toList == m2.toList))) || (O.st != Q.st)) : Bool) = false := by rw [← Bool.not_eq_true]; exact hc0
            clear hc0
            rw [hc] at eg
            have hWi : (!(((((((!(O.id.toList == Q.id.toList)) || (O.typ != Q.typ)) || (O.alg != Q.alg)) || (O.len != Q.len)) || (O.mask != Q.mask)) || (!(m1.toList == m2.toList))) || (O.st != Q.st))) = true := by rw [hc]; rfl
            refine does_on rfl (by kernel_rfl) eg fun K Q' hK => ?_
            clear eg
            have hf : Hid ((.pointer (some ⟨b + 1, 7, none⟩) : Value) = (if (!(((((((!(O.id.toList == Q.id.toList)) || (O.typ != Q.typ)) || (O.alg != Q.alg)) || (O.len != Q.len)) || (O.mask != Q.mask)) || (!(m1.toList == m2.toList))) || (O.st != Q.st))) = true then .pointer (some ⟨b + 1, 7, none⟩) else undef)) := (if_t hWi).symm
            clear hWi hc
            go_simp; exact hK _ _ (Grow.refl _) hf.out
        · intro w1 hg Ar seen
          have e52 := seen.de 52 60
          have eg := seen.de 49 57
          by_cases hc0 : ((((((((!(O.id.toList == Q.id.toList)) || (O.typ != Q.typ)) || (O.alg != Q.alg)) || (O.len != Q.len)) || (O.mask != Q.mask)) || (!(m1.toList == m2.toList))) || (O.st != Q.st)) : Bool) = true
          · have hc := hc0
            clear hc0
            rw [hc] at eg
            have hWi : (!(((((((!(O.id.toList == Q.id.toList)) || (O.typ != Q.typ)) || (O.alg != Q.alg)) || (O.len != Q.len)) || (O.mask != Q.mask)) || (!(m1.toList == m2.toList))) || (O.st != Q.st))) = false := by rw [hc]; rfl
            exact does_off rfl (by kernel_rfl) eg ne_tf (Grow.refl _) (show undef = _ from (if_f hWi).symm)
          · have hc : ((((((((!(O.id.toList == Q.id.toList)) || (O.typ != Q.typ)) || (O.alg != Q.alg)) || (O.len != Q.len)) || (O.mask != Q.mask)) || (!(m1.toList == m2.toList))) || (O.st != Q.st)) : Bool) = false := by rw [← Bool.not_eq_true]; exact hc0
            clear hc0
            rw [hc] at eg
            have hWi : (!(((((((!(O.id.toList == Q.id.toList)) || (O.typ != Q.typ)) || (O.alg != Q.alg)) || (O.len != Q.len)) || (O.mask != Q.mask)) || (!(m1.toList == m2.toList))) || (O.st != Q.st))) = true := by rw [hc]; rfl
            refine does_on rfl (by kernel_rfl) eg fun K Q' hK => ?_
            clear eg
            replace e52 := e52.trans (congrArg some (if_t hWi))
            have hf : Hid ((.agg d2.toArray : Value) = (if (!(((((((!(O.id.toList == Q.id.toList)) || (O.typ != Q.typ)) || (O.alg != Q.alg)) || (O.len != Q.len)) || (O.mask != Q.mask)) || (!(m1.toList == m2.toList))) || (O.st != Q.st))) = true then .agg d2.toArray else undef)) := (if_t hWi).symm
            clear hWi hc
            refine wp_load_mid 28 _ rfl (b + 1) 7 (by simp [Act.eval, e52]) d2 _ (Grow.ofRange HBD.out hg) Tryd.underlying28 rfl HD2S.out ?_
            exact hK _ _ (Grow.refl _) hf.out
        · intro w1 hg Ar seen
          have e51 := seen.de 51 59
          have e53 := seen.de 53 61
          have eg := seen.de 49 57
          by_cases hc0 : ((((((((!(O.id.toList == Q.id.toList)) || (O.typ != Q.typ)) || (O.alg != Q.alg)) || (O.len != Q.len)) || (O.mask != Q.mask)) || (!(m1.toList == m2.toList))) || (O.st != Q.st)) : Bool) = true
          · have hc := hc0
            clear hc0
            rw [hc] at eg
            have hWi : (!(((((((!(O.id.toList == Q.id.toList)) || (O.typ != Q.typ)) || (O.alg != Q.alg)) || (O.len != Q.len)) || (O.mask != Q.mask)) || (!(m1.toList == m2.toList))) || (O.st != Q.st))) = false := by rw [hc]; rfl
            exact does_off rfl (by kernel_rfl) eg ne_tf (Grow.refl _) (show undef = _ from (if_f hWi).symm)
          · have hc : ((((((((!(O.id.toList == Q.id.toList)) || (O.typ != Q.typ)) || (O.alg != Q.alg)) || (O.len != Q.len)) || (O.mask != Q.mask)) || (!(m1.toList == m2.toList))) || (O.st != Q.st)) : Bool) = false := by rw [← Bool.not_eq_true]; exact hc0
            clear hc0
            rw [hc] at eg
            have hWi : (!(((((((!(O.id.toList == Q.id.toList)) || (O.typ != Q.typ)) || (O.alg != Q.alg)) || (O.len != Q.len)) || (O.mask != Q.mask)) || (!(m1.toList == m2.toList))) || (O.st != Q.st))) = true := by rw [hc]; rfl
            refine does_on rfl (by kernel_rfl) eg fun K Q' hK => ?_
            clear eg
            replace e51 := e51.trans (congrArg some (if_t hWi))
            replace e53 := e53.trans (congrArg some (if_t hWi))
            have hf : Hid ((.bool (!dq) : Value) = (if (!(((((((!(O.id.toList == Q.id.toList)) || (O.typ != Q.typ)) || (O.alg != Q.alg)) || (O.len != Q.len)) || (O.mask != Q.mask)) || (!(m1.toList == m2.toList))) || (O.st != Q.st))) = true then .bool (!dq) else undef)) := (if_t hWi).symm
            clear hWi hc
            have hq := HDQ.out
            go_simp; exact hK _ _ (Grow.refl _) hf.out
        · intro w1 hg Ar seen
          have e49 := seen.de 49 57
          have e54 := seen.de 54 62
          refine does_plain rfl fun K Q' hK => ?_
          by_cases hp0 : ((((((((!(O.id.toList == Q.id.toList)) || (O.typ != Q.typ)) || (O.alg != Q.alg)) || (O.len != Q.len)) || (O.mask != Q.mask)) || (!(m1.toList == m2.toList))) || (O.st != Q.st)) : Bool) = true
          · have hp := hp0
            clear hp0
            rw [hp] at e49
            clear e54
            have hv := hid (by show (Value.bool true) = .bool ((((((((!(O.id.toList == Q.id.toList)) || (O.typ != Q.typ)) || (O.alg != Q.alg)) || (O.len != Q.len)) || (O.mask != Q.mask)) || (!(m1.toList == m2.toList))) || (O.st != Q.st)) || (!dq)); rw [hp]; rfl)
            clear hp
            go_simp; exact hK _ _ (Grow.refl _) hv.out
          · have hp : ((((((((!(O.id.toList == Q.id.toList)) || (O.typ != Q.typ)) || (O.alg != Q.alg)) || (O.len != Q.len)) || (O.mask != Q.mask)) || (!(m1.toList == m2.toList))) || (O.st != Q.st)) : Bool) = false := by rw [← Bool.not_eq_true]; exact hp0
            clear hp0
            rw [hp] at e49
            replace e54 := e54.trans (congrArg some (if_t (by rw [hp]; rfl)))
            have hv := hid (by show (Value.bool (!dq)) = .bool ((((((((!(O.id.toList == Q.id.toList)) || (O.typ != Q.typ)) || (O.alg != Q.alg)) || (O.len != Q.len)) || (O.mask != Q.mask)) || (!(m1.toList == m2.toList))) || (O.st != Q.st)) || (!dq)); rw [hp]; rfl)
            clear hp
            go_simp; exact hK _ _ (Grow.refl _) hv.out
        · intro w1 hg Ar seen
          have e55 := seen.de 55 63
          refine does_plain rfl fun K Q' hK => ?_
          go_simp; exact hK _ _ (Grow.refl _) rfl
        · intro w1 hg Ar seen
          have s2 := seen.sl 2 (.pointer (some ⟨b, 0, none⟩))
          have eg := seen.de 56 64
          by_cases hc0 : (((((((((!(O.id.toList == Q.id.toList)) || (O.typ != Q.typ)) || (O.alg != Q.alg)) || (O.len != Q.len)) || (O.mask != Q.mask)) || (!(m1.toList == m2.toList))) || (O.st != Q.st)) || (!dq)) : Bool) = true
          · have hc := hc0
            clear hc0
            rw [hc] at eg
            have hWi : (!((((((((!(O.id.toList == Q.id.toList)) || (O.typ != Q.typ)) || (O.alg != Q.alg)) || (O.len != Q.len)) || (O.mask != Q.mask)) || (!(m1.toList == m2.toList))) || (O.st != Q.st)) || (!dq))) = false := by rw [hc]; rfl
            exact does_off rfl (by kernel_rfl) eg ne_tf (Grow.refl _) (show undef = _ from (if_f hWi).symm)
          · have hc : (((((((((!(O.id.toList == Q.id.toList)) || (O.typ != Q.typ)) || (O.alg != Q.alg)) || (O.len != Q.len)) || (O.mask != Q.mask)) || (!(m1.toList == m2.toList))) || (O.st != Q.st)) || (!dq)) : Bool) = false := by rw [← Bool.not_eq_true]; exact hc0
            clear hc0
            rw [hc] at eg
            have hWi : (!((((((((!(O.id.toList == Q.id.toList)) || (O.typ != Q.typ)) || (O.alg != Q.alg)) || (O.len != Q.len)) || (O.mask != Q.mask)) || (!(m1.toList == m2.toList))) || (O.st != Q.st)) || (!dq))) = true := by rw [hc]; rfl
            refine does_on rfl (by kernel_rfl) eg fun K Q' hK => ?_
            clear eg
            have hf : Hid ((.pointer (some ⟨b, 27, none⟩) : Value) = (if (!((((((((!(O.id.toList == Q.id.toList)) || (O.typ != Q.typ)) || (O.alg != Q.alg)) || (O.len != Q.len)) || (O.mask != Q.mask)) || (!(m1.toList == m2.toList))) || (O.st != Q.st)) || (!dq))) = true then .pointer (some ⟨b, 27, none⟩) else undef)) := (if_t hWi).symm
            clear hWi hc
            go_simp; exact hK _ _ (Grow.refl _) hf.out
        · intro w1 hg Ar seen
          have e57 := seen.de 57 65
          have eg := seen.de 56 64
          by_cases hc0 : (((((((((!(O.id.toList == Q.id.toList)) || (O.typ != Q.typ)) || (O.alg != Q.alg)) || (O.len != Q.len)) || (O.mask != Q.mask)) || (!(m1.toList == m2.toList))) || (O.st != Q.st)) || (!dq)) : Bool) = true
          · have hc := hc0
            clear hc0
            rw [hc] at eg
            have hWi : (!((((((((!(O.id.toList == Q.id.toList)) || (O.typ != Q.typ)) || (O.alg != Q.alg)) || (O.len != Q.len)) || (O.mask != Q.mask)) || (!(m1.toList == m2.toList))) || (O.st != Q.st)) || (!dq))) = false := by rw [hc]; rfl
            exact does_off rfl (by kernel_rfl) eg ne_tf (Grow.refl _) (show undef = _ from (if_f hWi).symm)
          · have hc : (((((((((!(O.id.toList == Q.id.toList)) || (O.typ != Q.typ)) || (O.alg != Q.alg)) || (O.len != Q.len)) || (O.mask != Q.mask)) || (!(m1.toList == m2.toList))) || (O.st != Q.st)) || (!dq)) : Bool) = false := by rw [← Bool.not_eq_true]; exact hc0
            clear hc0
            rw [hc] at eg
            have hWi : (!((((((((!(O.id.toList == Q.id.toList)) || (O.typ != Q.typ)) || (O.alg != Q.alg)) || (O.len != Q.len)) || (O.mask != Q.mask)) || (!(m1.toList == m2.toList))) || (O.st != Q.st)) || (!dq))) = true := by rw [hc]; rfl
            refine does_on rfl (by kernel_rfl) eg fun K Q' hK => ?_
            clear eg
            replace e57 := e57.trans (congrArg some (if_t hWi))
            have hf : Hid ((.int .i64 O.reason : Value) = (if (!((((((((!(O.id.toList == Q.id.toList)) || (O.typ != Q.typ)) || (O.alg != Q.alg)) || (O.len != Q.len)) || (O.mask != Q.mask)) || (!(m1.toList == m2.toList))) || (O.st != Q.st)) || (!dq))) = true then .int .i64 O.reason else undef)) := (if_t hWi).symm
            clear hWi hc
            have hc0 := cell_of_block (j := 27) ((hg.block _ (block_lt S.out.one)).trans S.out.one) (oc27 O s)
            go_simp; exact hK _ _ (Grow.refl _) hf.out
        · intro w1 hg Ar seen
          have s3 := seen.sl 3 (.pointer (some ⟨b + 1, 0, none⟩))
          have eg := seen.de 56 64
          by_cases hc0 : (((((((((!(O.id.toList == Q.id.toList)) || (O.typ != Q.typ)) || (O.alg != Q.alg)) || (O.len != Q.len)) || (O.mask != Q.mask)) || (!(m1.toList == m2.toList))) || (O.st != Q.st)) || (!dq)) : Bool) = true
          · have hc := hc0
            clear hc0
            rw [hc] at eg
            have hWi : (!((((((((!(O.id.toList == Q.id.toList)) || (O.typ != Q.typ)) || (O.alg != Q.alg)) || (O.len != Q.len)) || (O.mask != Q.mask)) || (!(m1.toList == m2.toList))) || (O.st != Q.st)) || (!dq))) = false := by rw [hc]; rfl
            exact does_off rfl (by kernel_rfl) eg ne_tf (Grow.refl _) (show undef = _ from (if_f hWi).symm)
          · have hc : (((((((((!(O.id.toList == Q.id.toList)) || (O.typ != Q.typ)) || (O.alg != Q.alg)) || (O.len != Q.len)) || (O.mask != Q.mask)) || (!(m1.toList == m2.toList))) || (O.st != Q.st)) || (!dq)) : Bool) = false := by rw [← Bool.not_eq_true]; exact hc0
            clear hc0
            rw [hc] at eg
            have hWi : (!((((((((!(O.id.toList == Q.id.toList)) || (O.typ != Q.typ)) || (O.alg != Q.alg)) || (O.len != Q.len)) || (O.mask != Q.mask)) || (!(m1.toList == m2.toList))) || (O.st != Q.st)) || (!dq))) = true := by rw [hc]; rfl
            refine does_on rfl (by kernel_rfl) eg fun K Q' hK => ?_
            clear eg
            have hf : Hid ((.pointer (some ⟨b + 1, 27, none⟩) : Value) = (if (!((((((((!(O.id.toList == Q.id.toList)) || (O.typ != Q.typ)) || (O.alg != Q.alg)) || (O.len != Q.len)) || (O.mask != Q.mask)) || (!(m1.toList == m2.toList))) || (O.st != Q.st)) || (!dq))) = true then .pointer (some ⟨b + 1, 27, none⟩) else undef)) := (if_t hWi).symm
            clear hWi hc
            go_simp; exact hK _ _ (Grow.refl _) hf.out
        · intro w1 hg Ar seen
          have e59 := seen.de 59 67
          have eg := seen.de 56 64
          by_cases hc0 : (((((((((!(O.id.toList == Q.id.toList)) || (O.typ != Q.typ)) || (O.alg != Q.alg)) || (O.len != Q.len)) || (O.mask != Q.mask)) || (!(m1.toList == m2.toList))) || (O.st != Q.st)) || (!dq)) : Bool) = true
          · have hc := hc0
            clear hc0
            rw [hc] at eg
            have hWi : (!((((((((!(O.id.toList == Q.id.toList)) || (O.typ != Q.typ)) || (O.alg != Q.alg)) || (O.len != Q.len)) || (O.mask != Q.mask)) || (!(m1.toList == m2.toList))) || (O.st != Q.st)) || (!dq))) = false := by rw [hc]; rfl
            exact does_off rfl (by kernel_rfl) eg ne_tf (Grow.refl _) (show undef = _ from (if_f hWi).symm)
          · have hc : (((((((((!(O.id.toList == Q.id.toList)) || (O.typ != Q.typ)) || (O.alg != Q.alg)) || (O.len != Q.len)) || (O.mask != Q.mask)) || (!(m1.toList == m2.toList))) || (O.st != Q.st)) || (!dq)) : Bool) = false := by rw [← Bool.not_eq_true]; exact hc0
            clear hc0
            rw [hc] at eg
            have hWi : (!((((((((!(O.id.toList == Q.id.toList)) || (O.typ != Q.typ)) || (O.alg != Q.alg)) || (O.len != Q.len)) || (O.mask != Q.mask)) || (!(m1.toList == m2.toList))) || (O.st != Q.st)) || (!dq))) = true := by rw [hc]; rfl
            refine does_on rfl (by kernel_rfl) eg fun K Q' hK => ?_
            clear eg
            replace e59 := e59.trans (congrArg some (if_t hWi))
            have hf : Hid ((.int .i64 Q.reason : Value) = (if (!((((((((!(O.id.toList == Q.id.toList)) || (O.typ != Q.typ)) || (O.alg != Q.alg)) || (O.len != Q.len)) || (O.mask != Q.mask)) || (!(m1.toList == m2.toList))) || (O.st != Q.st)) || (!dq))) = true then .int .i64 Q.reason else undef)) := (if_t hWi).symm
            clear hWi hc
            have hc0 := cell_of_block (j := 27) ((hg.block _ (block_lt S.out.two)).trans S.out.two) (oc27 Q t)
            go_simp; exact hK _ _ (Grow.refl _) hf.out
        · intro w1 hg Ar seen
          have e58 := seen.de 58 66
          have e60 := seen.de 60 68
          have eg := seen.de 56 64
          by_cases hc0 : (((((((((!(O.id.toList == Q.id.toList)) || (O.typ != Q.typ)) || (O.alg != Q.alg)) || (O.len != Q.len)) || (O.mask != Q.mask)) || (!(m1.toList == m2.toList))) || (O.st != Q.st)) || (!dq)) : Bool) = true
          · have hc := hc0
            clear hc0
            rw [hc] at eg
            have hWi : (!((((((((!(O.id.toList == Q.id.toList)) || (O.typ != Q.typ)) || (O.alg != Q.alg)) || (O.len != Q.len)) || (O.mask != Q.mask)) || (!(m1.toList == m2.toList))) || (O.st != Q.st)) || (!dq))) = false := by rw [hc]; rfl
            exact does_off rfl (by kernel_rfl) eg ne_tf (Grow.refl _) (show undef = _ from (if_f hWi).symm)
          · have hc : (((((((((!(O.id.toList == Q.id.toList)) || (O.typ != Q.typ)) || (O.alg != Q.alg)) || (O.len != Q.len)) || (O.mask != Q.mask)) || (!(m1.toList == m2.toList))) || (O.st != Q.st)) || (!dq)) : Bool) = false := by rw [← Bool.not_eq_true]; exact hc0
            clear hc0
            rw [hc] at eg
            have hWi : (!((((((((!(O.id.toList == Q.id.toList)) || (O.typ != Q.typ)) || (O.alg != Q.alg)) || (O.len != Q.len)) || (O.mask != Q.mask)) || (!(m1.toList == m2.toList))) || (O.st != Q.st)) || (!dq))) = true := by rw [hc]; rfl
            refine does_on rfl (by kernel_rfl) eg fun K Q' hK => ?_
            clear eg
            replace e58 := e58.trans (congrArg some (if_t hWi))
            replace e60 := e60.trans (congrArg some (if_t hWi))
            have hf : Hid ((.bool (O.reason != Q.reason) : Value) = (if (!((((((((!(O.id.toList == Q.id.toList)) || (O.typ != Q.typ)) || (O.alg != Q.alg)) || (O.len != Q.len)) || (O.mask != Q.mask)) || (!(m1.toList == m2.toList))) || (O.st != Q.st)) || (!dq))) = true then .bool (O.reason != Q.reason) else undef)) := (if_t hWi).symm
            clear hWi hc
            go_simp; exact hK _ _ (Grow.refl _) hf.out
        · intro w1 hg Ar seen
          have e56 := seen.de 56 64
          have e61 := seen.de 61 69
          refine does_plain rfl fun K Q' hK => ?_
          by_cases hp0 : (((((((((!(O.id.toList == Q.id.toList)) || (O.typ != Q.typ)) || (O.alg != Q.alg)) || (O.len != Q.len)) || (O.mask != Q.mask)) || (!(m1.toList == m2.toList))) || (O.st != Q.st)) || (!dq)) : Bool) = true
          · have hp := hp0
            clear hp0
            rw [hp] at e56
            clear e61
            have hv := hid (by show (Value.bool true) = .bool (((((((((!(O.id.toList == Q.id.toList)) || (O.typ != Q.typ)) || (O.alg != Q.alg)) || (O.len != Q.len)) || (O.mask != Q.mask)) || (!(m1.toList == m2.toList))) || (O.st != Q.st)) || (!dq)) || (O.reason != Q.reason)); rw [hp]; rfl)
            clear hp
            go_simp; exact hK _ _ (Grow.refl _) hv.out
          · have hp : (((((((((!(O.id.toList == Q.id.toList)) || (O.typ != Q.typ)) || (O.alg != Q.alg)) || (O.len != Q.len)) || (O.mask != Q.mask)) || (!(m1.toList == m2.toList))) || (O.st != Q.st)) || (!dq)) : Bool) = false := by rw [← Bool.not_eq_true]; exact hp0
            clear hp0
            rw [hp] at e56
            replace e61 := e61.trans (congrArg some (if_t (by rw [hp]; rfl)))
            have hv := hid (by show (Value.bool (O.reason != Q.reason)) = .bool (((((((((!(O.id.toList == Q.id.toList)) || (O.typ != Q.typ)) || (O.alg != Q.alg)) || (O.len != Q.len)) || (O.mask != Q.mask)) || (!(m1.toList == m2.toList))) || (O.st != Q.st)) || (!dq)) || (O.reason != Q.reason)); rw [hp]; rfl)
            clear hp
            go_simp; exact hK _ _ (Grow.refl _) hv.out
        · intro w1 hg Ar seen
          have e62 := seen.de 62 70
          refine does_plain rfl fun K Q' hK => ?_
          go_simp; exact hK _ _ (Grow.refl _) rfl
        · intro w1 hg Ar seen
          have s2 := seen.sl 2 (.pointer (some ⟨b, 0, none⟩))
          have eg := seen.de 63 71
          by_cases hc0 : ((((((((((!(O.id.toList == Q.id.toList)) || (O.typ != Q.typ)) || (O.alg != Q.alg)) || (O.len != Q.len)) || (O.mask != Q.mask)) || (!(m1.toList == m2.toList))) || (O.st != Q.st)) || (!dq)) || (O.reason != Q.reason)) : Bool) = true
          · have hc := hc0
            clear hc0
            rw [hc] at eg
            have hWi : (!(((((((((!(O.id.toList == Q.id.toList)) || (O.typ != Q.typ)) || (O.alg != Q.alg)) || (O.len != Q.len)) || (O.mask != Q.mask)) || (!(m1.toList == m2.toList))) || (O.st != Q.st)) || (!dq)) || (O.reason != Q.reason))) = false := by rw [hc]; rfl
            exact does_off rfl (by kernel_rfl) eg ne_tf (Grow.refl _) (show undef = _ from (if_f hWi).symm)
          · have hc : ((((((((((!(O.id.toList == Q.id.toList)) || (O.typ != Q.typ)) || (O.alg != Q.alg)) || (O.len != Q.len)) || (O.mask != Q.mask)) || (!(m1.toList == m2.toList))) || (O.st != Q.st)) || (!dq)) || (O.reason != Q.reason)) : Bool) = false := by rw [← Bool.not_eq_true]; exact hc0
            clear hc0
            rw [hc] at eg
            have hWi : (!(((((((((!(O.id.toList == Q.id.toList)) || (O.typ != Q.typ)) || (O.alg != Q.alg)) || (O.len != Q.len)) || (O.mask != Q.mask)) || (!(m1.toList == m2.toList))) || (O.st != Q.st)) || (!dq)) || (O.reason != Q.reason))) = true := by rw [hc]; rfl
            refine does_on rfl (by kernel_rfl) eg fun K Q' hK => ?_
            clear eg
            have hf : Hid ((.pointer (some ⟨b, 28, none⟩) : Value) = (if (!(((((((((!(O.id.toList == Q.id.toList)) || (O.typ != Q.typ)) || (O.alg != Q.alg)) || (O.len != Q.len)) || (O.mask != Q.mask)) || (!(m1.toList == m2.toList))) || (O.st != Q.st)) || (!dq)) || (O.reason != Q.reason))) = true then .pointer (some ⟨b, 28, none⟩) else undef)) := (if_t hWi).symm
            clear hWi hc
            go_simp; exact hK _ _ (Grow.refl _) hf.out
        · intro w1 hg Ar seen
          have e64 := seen.de 64 72
          have eg := seen.de 63 71
          by_cases hc0 : ((((((((((!(O.id.toList == Q.id.toList)) || (O.typ != Q.typ)) || (O.alg != Q.alg)) || (O.len != Q.len)) || (O.mask != Q.mask)) || (!(m1.toList == m2.toList))) || (O.st != Q.st)) || (!dq)) || (O.reason != Q.reason)) : Bool) = true
          · have hc := hc0
            clear hc0
            rw [hc] at eg
            have hWi : (!(((((((((!(O.id.toList == Q.id.toList)) || (O.typ != Q.typ)) || (O.alg != Q.alg)) || (O.len != Q.len)) || (O.mask != Q.mask)) || (!(m1.toList == m2.toList))) || (O.st != Q.st)) || (!dq)) || (O.reason != Q.reason))) = false := by rw [hc]; rfl
            exact does_off rfl (by kernel_rfl) eg ne_tf (Grow.refl _) (show undef = _ from (if_f hWi).symm)
          · have hc : ((((((((((!(O.id.toList == Q.id.toList)) || (O.typ != Q.typ)) || (O.alg != Q.alg)) || (O.len != Q.len)) || (O.mask != Q.mask)) || (!(m1.toList == m2.toList))) || (O.st != Q.st)) || (!dq)) || (O.reason != Q.reason)) : Bool) = false := by rw [← Bool.not_eq_true]; exact hc0
            clear hc0
            rw [hc] at eg
            have hWi : (!(((((((((!(O.id.toList == Q.id.toList)) || (O.typ != Q.typ)) || (O.alg != Q.alg)) || (O.len != Q.len)) || (O.mask != Q.mask)) || (!(m1.toList == m2.toList))) || (O.st != Q.st)) || (!dq)) || (O.reason != Q.reason))) = true := by rw [hc]; rfl
            refine does_on rfl (by kernel_rfl) eg fun K Q' hK => ?_
            clear eg
            replace e64 := e64.trans (congrArg some (if_t hWi))
            have hf : Hid ((.string O.msg : Value) = (if (!(((((((((!(O.id.toList == Q.id.toList)) || (O.typ != Q.typ)) || (O.alg != Q.alg)) || (O.len != Q.len)) || (O.mask != Q.mask)) || (!(m1.toList == m2.toList))) || (O.st != Q.st)) || (!dq)) || (O.reason != Q.reason))) = true then .string O.msg else undef)) := (if_t hWi).symm
            clear hWi hc
            have hc0 := cell_of_block (j := 28) ((hg.block _ (block_lt S.out.one)).trans S.out.one) (oc28 O s)
            go_simp; exact hK _ _ (Grow.refl _) hf.out
        · intro w1 hg Ar seen
          have s3 := seen.sl 3 (.pointer (some ⟨b + 1, 0, none⟩))
          have eg := seen.de 63 71
          by_cases hc0 : ((((((((((!(O.id.toList == Q.id.toList)) || (O.typ != Q.typ)) || (O.alg != Q.alg)) || (O.len != Q.len)) || (O.mask != Q.mask)) || (!(m1.toList == m2.toList))) || (O.st != Q.st)) || (!dq)) || (O.reason != Q.reason)) : Bool) = true
          · have hc := hc0
            clear hc0
            rw [hc] at eg
            have hWi : (!(((((((((!(O.id.toList == Q.id.toList)) || (O.typ != Q.typ)) || (O.alg != Q.alg)) || (O.len != Q.len)) || (O.mask != Q.mask)) || (!(m1.toList == m2.toList))) || (O.st != Q.st)) || (!dq)) || (O.reason != Q.reason))) = false := by rw [hc]; rfl
            exact does_off rfl (by kernel_rfl) eg ne_tf (Grow.refl _) (show undef = _ from (if_f hWi).symm)
          · have hc : ((((((((((!(O.id.toList == Q.id.toList)) || (O.typ != Q.typ)) || (O.alg != Q.alg)) || (O.len != Q.len)) || (O.mask != Q.mask)) || (!(m1.toList == m2.toList))) || (O.st != Q.st)) || (!dq)) || (O.reason != Q.reason)) : Bool) = false := by rw [← Bool.not_eq_true]; exact hc0
            clear hc0
            rw [hc] at eg
            have hWi : (!(((((((((!(O.id.toList == Q.id.toList)) || (O.typ != Q.typ)) || (O.alg != Q.alg)) || (O.len != Q.len)) || (O.mask != Q.mask)) || (!(m1.toList == m2.toList))) || (O.st != Q.st)) || (!dq)) || (O.reason != Q.reason))) = true := by rw [hc]; rfl
            refine does_on rfl (by kernel_rfl) eg fun K Q' hK => ?_
            clear eg
            have hf : Hid ((.pointer (some ⟨b + 1, 28, none⟩) : Value) = (if (!(((((((((!(O.id.toList == Q.id.toList)) || (O.typ != Q.typ)) || (O.alg != Q.alg)) || (O.len != Q.len)) || (O.mask != Q.mask)) || (!(m1.toList == m2.toList))) || (O.st != Q.st)) || (!dq)) || (O.reason != Q.reason))) = true then .pointer (some ⟨b + 1, 28, none⟩) else undef)) := (if_t hWi).symm
            clear hWi hc
            go_simp; exact hK _ _ (Grow.refl _) hf.out
        · intro w1 hg Ar seen
          have e66 := seen.de 66 74
          have eg := seen.de 63 71
          by_cases hc0 : ((((((((((!(O.id.toList == Q.id.toList)) || (O.typ != Q.typ)) || (O.alg != Q.alg)) || (O.len != Q.len)) || (O.mask != Q.mask)) || (!(m1.toList == m2.toList))) || (O.st != Q.st)) || (!dq)) || (O.reason != Q.reason)) : Bool) = true
          · have hc := hc0
            clear hc0
            rw [hc] at eg
            have hWi : (!(((((((((!(O.id.toList == Q.id.toList)) || (O.typ != Q.typ)) || (O.alg != Q.alg)) || (O.len != Q.len)) || (O.mask != Q.mask)) || (!(m1.toList == m2.toList))) || (O.st != Q.st)) || (!dq)) || (O.reason != Q.reason))) = false := by rw [hc]; rfl
            exact does_off rfl (by kernel_rfl) eg ne_tf (Grow.refl _) (show undef = _ from (if_f hWi).symm)
          · have hc : ((((((((((!(O.id.toList == Q.id.toList)) || (O.typ != Q.typ)) || (O.alg != Q.alg)) || (O.len != Q.len)) || (O.mask != Q.mask)) || (!(m1.toList == m2.toList))) || (O.st != Q.st)) || (!dq)) || (O.reason != Q.reason)) : Bool) = false := by rw [← Bool.not_eq_true]; exact hc0
            clear hc0
            rw [hc] at eg
            have hWi : (!(((((((((!(O.id.toList == Q.id.toList)) || (O.typ != Q.typ)) || (O.alg != Q.alg)) || (O.len != Q.len)) || (O.mask != Q.mask)) || (!(m1.toList == m2.toList))) || (O.st != Q.st)) || (!dq)) || (O.reason != Q.reason))) = true := by rw [hc]; rfl
            refine does_on rfl (by kernel_rfl) eg fun K Q' hK => ?_
            clear eg
            replace e66 := e66.trans (congrArg some (if_t hWi))
            have hf : Hid ((.string Q.msg : Value) = (if (!(((((((((!(O.id.toList == Q.id.toList)) || (O.typ != Q.typ)) || (O.alg != Q.alg)) || (O.len != Q.len)) || (O.mask != Q.mask)) || (!(m1.toList == m2.toList))) || (O.st != Q.st)) || (!dq)) || (O.reason != Q.reason))) = true then .string Q.msg else undef)) := (if_t hWi).symm
            clear hWi hc
            have hc0 := cell_of_block (j := 28) ((hg.block _ (block_lt S.out.two)).trans S.out.two) (oc28 Q t)
            go_simp; exact hK _ _ (Grow.refl _) hf.out
        · intro w1 hg Ar seen
          have e65 := seen.de 65 73
          have e67 := seen.de 67 75
          have eg := seen.de 63 71
          by_cases hc0 : ((((((((((!(O.id.toList == Q.id.toList)) || (O.typ != Q.typ)) || (O.alg != Q.alg)) || (O.len != Q.len)) || (O.mask != Q.mask)) || (!(m1.toList == m2.toList))) || (O.st != Q.st)) || (!dq)) || (O.reason != Q.reason)) : Bool) = true
          · have hc := hc0
            clear hc0
            rw [hc] at eg
            have hWi : (!(((((((((!(O.id.toList == Q.id.toList)) || (O.typ != Q.typ)) || (O.alg != Q.alg)) || (O.len != Q.len)) || (O.mask != Q.mask)) || (!(m1.toList == m2.toList))) || (O.st != Q.st)) || (!dq)) || (O.reason != Q.reason))) = false := by rw [hc]; rfl
            exact does_off rfl (by kernel_rfl) eg ne_tf (Grow.refl _) (show undef = _ from (if_f hWi).symm)
          · have hc : ((((((((((!(O.id.toList == Q.id.toList)) || (O.typ != Q.typ)) || (O.alg != Q.alg)) || (O.len != Q.len)) || (O.mask != Q.mask)) || (!(m1.toList == m2.toList))) || (O.st != Q.st)) || (!dq)) || (O.reason != Q.reason)) : Bool) = false := by rw [← Bool.not_eq_true]; exact hc0
            clear hc0
            rw [hc] at eg
            have hWi : (!(((((((((!(O.id.toList == Q.id.toList)) || (O.typ != Q.typ)) || (O.alg != Q.alg)) || (O.len != Q.len)) || (O.mask != Q.mask)) || (!(m1.toList == m2.toList))) || (O.st != Q.st)) || (!dq)) || (O.reason != Q.reason))) = true := by rw [hc]; rfl
            refine does_on rfl (by kernel_rfl) eg fun K Q' hK => ?_
            clear eg
            replace e65 := e65.trans (congrArg some (if_t hWi))
            replace e67 := e67.trans (congrArg some (if_t hWi))
            have hf : Hid ((.bool (!(O.msg.toList == Q.msg.toList)) : Value) = (if (!(((((((((!(O.id.toList == Q.id.toList)) || (O.typ != Q.typ)) || (O.alg != Q.alg)) || (O.len != Q.len)) || (O.mask != Q.mask)) || (!(m1.toList == m2.toList))) || (O.st != Q.st)) || (!dq)) || (O.reason != Q.reason))) = true then .bool (!(O.msg.toList == Q.msg.toList)) else undef)) := (if_t hWi).symm
            clear hWi hc
            go_simp; exact hK _ _ (Grow.refl _) hf.out
        · intro w1 hg Ar seen
          have e63 := seen.de 63 71
          have e68 := seen.de 68 76
          refine does_plain rfl fun K Q' hK => ?_
          by_cases hp0 : ((((((((((!(O.id.toList == Q.id.toList)) || (O.typ != Q.typ)) || (O.alg != Q.alg)) || (O.len != Q.len)) || (O.mask != Q.mask)) || (!(m1.toList == m2.toList))) || (O.st != Q.st)) || (!dq)) || (O.reason != Q.reason)) : Bool) = true
          · have hp := hp0
            clear hp0
            rw [hp] at e63
            clear e68
            have hv := hid (by show (Value.bool true) = .bool ((((((((((!(O.id.toList == Q.id.toList)) || (O.typ != Q.typ)) || (O.alg != Q.alg)) || (O.len != Q.len)) || (O.mask != Q.mask)) || (!(m1.toList == m2.toList))) || (O.st != Q.st)) || (!dq)) || (O.reason != Q.reason)) || (!(O.msg.toList == Q.msg.toList))); rw [hp]; rfl)
            clear hp
            go_simp; exact hK _ _ (Grow.refl _) hv.out
          · have hp : ((((((((((!(O.id.toList == Q.id.toList)) || (O.typ != Q.typ)) || (O.alg != Q.alg)) || (O.len != Q.len)) || (O.mask != Q.mask)) || (!(m1.toList == m2.toList))) || (O.st != Q.st)) || (!dq)) || (O.reason != Q.reason)) : Bool) = false := by rw [← Bool.not_eq_true]; exact hp0
            clear hp0
            rw [hp] at e63
            replace e68 := e68.trans (congrArg some (if_t (by rw [hp]; rfl)))
            have hv := hid (by show (Value.bool (!(O.msg.toList == Q.msg.toList))) = .bool ((((((((((!(O.id.toList == Q.id.toList)) || (O.typ != Q.typ)) || (O.alg != Q.alg)) || (O.len != Q.len)) || (O.mask != Q.mask)) || (!(m1.toList == m2.toList))) || (O.st != Q.st)) || (!dq)) || (O.reason != Q.reason)) || (!(O.msg.toList == Q.msg.toList))); rw [hp]; rfl)
            clear hp
            go_simp; exact hK _ _ (Grow.refl _) hv.out
        · intro w1 hg Ar seen
          have e69 := seen.de 69 77
          refine does_plain rfl fun K Q' hK => ?_
          go_simp; exact hK _ _ (Grow.refl _) rfl
        · intro w1 hg Ar seen
          have s2 := seen.sl 2 (.pointer (some ⟨b, 0, none⟩))
          have eg := seen.de 70 78
          by_cases hc0 : (((((((((((!(O.id.toList == Q.id.toList)) || (O.typ != Q.typ)) || (O.alg != Q.alg)) || (O.len != Q.len)) || (O.mask != Q.mask)) || (!(m1.toList == m2.toList))) || (O.st != Q.st)) || (!dq)) || (O.reason != Q.reason)) || (!(O.msg.toList == Q.msg.toList))) : Bool) = true
          · have hc := hc0
            clear hc0
            rw [hc] at eg
            have hWi : (!((((((((((!(O.id.toList == Q.id.toList)) || (O.typ != Q.typ)) || (O.alg != Q.alg)) || (O.len != Q.len)) || (O.mask != Q.mask)) || (!(m1.toList == m2.toList))) || (O.st != Q.st)) || (!dq)) || (O.reason != Q.reason)) || (!(O.msg.toList == Q.msg.toList)))) = false := by rw [hc]; rfl
            exact does_off rfl (by kernel_rfl) eg ne_tf (Grow.refl _) (show undef = _ from (if_f hWi).symm)
          · have hc : (((((((((((!(O.id.toList == Q.id.toList)) || (O.typ != Q.typ)) || (O.alg != Q.alg)) || (O.len != Q.len)) || (O.mask != Q.mask)) || (!(m1.toList == m2.toList))) || (O.st != Q.st)) || (!dq)) || (O.reason != Q.reason)) || (!(O.msg.toList == Q.msg.toList))) : Bool) = false := by rw [← Bool.not_eq_true]; exact hc0
            clear hc0
            rw [hc] at eg
            have hWi : (!((((((((((!(O.id.toList == Q.id.toList)) || (O.typ != Q.typ)) || (O.alg != Q.alg)) || (O.len != Q.len)) || (O.mask != Q.mask)) || (!(m1.toList == m2.toList))) || (O.st != Q.st)) || (!dq)) || (O.reason != Q.reason)) || (!(O.msg.toList == Q.msg.toList)))) = true := by rw [hc]; rfl
            refine does_on rfl (by kernel_rfl) eg fun K Q' hK => ?_
            clear eg
            have hf : Hid ((.pointer (some ⟨b, 32, none⟩) : Value) = (if (!((((((((((!(O.id.toList == Q.id.toList)) || (O.typ != Q.typ)) || (O.alg != Q.alg)) || (O.len != Q.len)) || (O.mask != Q.mask)) || (!(m1.toList == m2.toList))) || (O.st != Q.st)) || (!dq)) || (O.reason != Q.reason)) || (!(O.msg.toList == Q.msg.toList)))) = true then .pointer (some ⟨b, 32, none⟩) else undef)) := (if_t hWi).symm
            clear hWi hc
            go_simp; exact hK _ _ (Grow.refl _) hf.out
        · intro w1 hg Ar seen
          have e71 := seen.de 71 79
          have eg := seen.de 70 78
          by_cases hc0 : (((((((((((!(O.id.toList == Q.id.toList)) || (O.typ != Q.typ)) || (O.alg != Q.alg)) || (O.len != Q.len)) || (O.mask != Q.mask)) || (!(m1.toList == m2.toList))) || (O.st != Q.st)) || (!dq)) || (O.reason != Q.reason)) || (!(O.msg.toList == Q.msg.toList))) : Bool) = true
          · have hc := hc0
            clear hc0
            rw [hc] at eg
            have hWi : (!((((((((((!(O.id.toList == Q.id.toList)) || (O.typ != Q.typ)) || (O.alg != Q.alg)) || (O.len != Q.len)) || (O.mask != Q.mask)) || (!(m1.toList == m2.toList))) || (O.st != Q.st)) || (!dq)) || (O.reason != Q.reason)) || (!(O.msg.toList == Q.msg.toList)))) = false := by rw [hc]; rfl
            exact does_off rfl (by kernel_rfl) eg ne_tf (Grow.refl _) (show undef = _ from (if_f hWi).symm)
          · have hc : (((((((((((!(O.id.toList == Q.id.toList)) || (O.typ != Q.typ)) || (O.alg != Q.alg)) || (O.len != Q.len)) || (O.mask != Q.mask)) || (!(m1.toList == m2.toList))) || (O.st != Q.st)) || (!dq)) || (O.reason != Q.reason)) || (!(O.msg.toList == Q.msg.toList))) : Bool) = false := by rw [← Bool.not_eq_true]; exact hc0
            clear hc0
            rw [hc] at eg
            have hWi : (!((((((((((!(O.id.toList == Q.id.toList)) || (O.typ != Q.typ)) || (O.alg != Q.alg)) || (O.len != Q.len)) || (O.mask != Q.mask)) || (!(m1.toList == m2.toList))) || (O.st != Q.st)) || (!dq)) || (O.reason != Q.reason)) || (!(O.msg.toList == Q.msg.toList)))) = true := by rw [hc]; rfl
            refine does_on rfl (by kernel_rfl) eg fun K Q' hK => ?_
            clear eg
            replace e71 := e71.trans (congrArg some (if_t hWi))
            have hf : Hid ((.agg l1.toArray : Value) = (if (!((((((((((!(O.id.toList == Q.id.toList)) || (O.typ != Q.typ)) || (O.alg != Q.alg)) || (O.len != Q.len)) || (O.mask != Q.mask)) || (!(m1.toList == m2.toList))) || (O.st != Q.st)) || (!dq)) || (O.reason != Q.reason)) || (!(O.msg.toList == Q.msg.toList)))) = true then .agg l1.toArray else undef)) := (if_t hWi).symm
            clear hWi hc
            refine wp_load_mid 33 _ rfl b 32 (by simp [Act.eval, e71]) l1 _ (Grow.ofRange HAL.out hg) Tryd.underlying33 rfl HL1S.out ?_
            exact hK _ _ (Grow.refl _) hf.out
        · intro w1 hg Ar seen
          have s3 := seen.sl 3 (.pointer (some ⟨b + 1, 0, none⟩))
          have eg := seen.de 70 78
          by_cases hc0 : (((((((((((!(O.id.toList == Q.id.toList)) || (O.typ != Q.typ)) || (O.alg != Q.alg)) || (O.len != Q.len)) || (O.mask != Q.mask)) || (!(m1.toList == m2.toList))) || (O.st != Q.st)) || (!dq)) || (O.reason != Q.reason)) || (!(O.msg.toList == Q.msg.toList))) : Bool) = true
          · have hc := hc0
            clear hc0
            rw [hc] at eg
            have hWi : (!((((((((((!(O.id.toList == Q.id.toList)) || (O.typ != Q.typ)) || (O.alg != Q.alg)) || (O.len != Q.len)) || (O.mask != Q.mask)) || (!(m1.toList == m2.toList))) || (O.st != Q.st)) || (!dq)) || (O.reason != Q.reason)) || (!(O.msg.toList == Q.msg.toList)))) = false := by rw [hc]; rfl
            exact does_off rfl (by kernel_rfl) eg ne_tf (Grow.refl _) (show undef = _ from (if_f hWi).symm)
          · have hc : (((((((((((!(O.id.toList == Q.id.toList)) || (O.typ != Q.typ)) || (O.alg != Q.alg)) || (O.len != Q.len)) || (O.mask != Q.mask)) || (!(m1.toList == m2.toList))) || (O.st != Q.st)) || (!dq)) || (O.reason != Q.reason)) || (!(O.msg.toList == Q.msg.toList))) : Bool) = false := by rw [← Bool.not_eq_true]; exact hc0
            clear hc0
            rw [hc] at eg
            have hWi : (!((((((((((!(O.id.toList == Q.id.toList)) || (O.typ != Q.typ)) || (O.alg != Q.alg)) || (O.len != Q.len)) || (O.mask != Q.mask)) || (!(m1.toList == m2.toList))) || (O.st != Q.st)) || (!dq)) || (O.reason != Q.reason)) || (!(O.msg.toList == Q.msg.toList)))) = true := by rw [hc]; rfl
            refine does_on rfl (by kernel_rfl) eg fun K Q' hK => ?_
            clear eg
            have hf : Hid ((.pointer (some ⟨b + 1, 32, none⟩) : Value) = (if (!((((((((((!(O.id.toList == Q.id.toList)) || (O.typ != Q.typ)) || (O.alg != Q.alg)) || (O.len != Q.len)) || (O.mask != Q.mask)) || (!(m1.toList == m2.toList))) || (O.st != Q.st)) || (!dq)) || (O.reason != Q.reason)) || (!(O.msg.toList == Q.msg.toList)))) = true then .pointer (some ⟨b + 1, 32, none⟩) else undef)) := (if_t hWi).symm
            clear hWi hc
            go_simp; exact hK _ _ (Grow.refl _) hf.out
        · intro w1 hg Ar seen
          have e73 := seen.de 73 81
          have eg := seen.de 70 78
          by_cases hc0 : (((((((((((!(O.id.toList == Q.id.toList)) || (O.typ != Q.typ)) || (O.alg != Q.alg)) || (O.len != Q.len)) || (O.mask != Q.mask)) || (!(m1.toList == m2.toList))) || (O.st != Q.st)) || (!dq)) || (O.reason != Q.reason)) || (!(O.msg.toList == Q.msg.toList))) : Bool) = true
          · have hc := hc0
            clear hc0
            rw [hc] at eg
            have hWi : (!((((((((((!(O.id.toList == Q.id.toList)) || (O.typ != Q.typ)) || (O.alg != Q.alg)) || (O.len != Q.len)) || (O.mask != Q.mask)) || (!(m1.toList == m2.toList))) || (O.st != Q.st)) || (!dq)) || (O.reason != Q.reason)) || (!(O.msg.toList == Q.msg.toList)))) = false := by rw [hc]; rfl
            exact does_off rfl (by kernel_rfl) eg ne_tf (Grow.refl _) (show undef = _ from (if_f hWi).symm)
          · have hc : (((((((((((!(O.id.toList == Q.id.toList)) || (O.typ != Q.typ)) || (O.alg != Q.alg)) || (O.len != Q.len)) || (O.mask != Q.mask)) || (!(m1.toList == m2.toList))) || (O.st != Q.st)) || (!dq)) || (O.reason != Q.reason)) || (!(O.msg.toList == Q.msg.toList))) : Bool) = false := by rw [← Bool.not_eq_true]; exact hc0
            clear hc0
            rw [hc] at eg
            have hWi : (!((((((((((!(O.id.toList == Q.id.toList)) || (O.typ != Q.typ)) || (O.alg != Q.alg)) || (O.len != Q.len)) || (O.mask != Q.mask)) || (!(m1.toList == m2.toList))) || (O.st != Q.st)) || (!dq)) || (O.reason != Q.reason)) || (!(O.msg.toList == Q.msg.toList)))) = true := by rw [hc]; rfl
            refine does_on rfl (by kernel_rfl) eg fun K Q' hK => ?_
            clear eg
            replace e73 := e73.trans (congrArg some (if_t hWi))
            have hf : Hid ((.agg l2.toArray : Value) = (if (!((((((((((!(O.id.toList == Q.id.toList)) || (O.typ != Q.typ)) || (O.alg != Q.alg)) || (O.len != Q.len)) || (O.mask != Q.mask)) || (!(m1.toList == m2.toList))) || (O.st != Q.st)) || (!dq)) || (O.reason != Q.reason)) || (!(O.msg.toList == Q.msg.toList)))) = true then .agg l2.toArray else undef)) := (if_t hWi).symm
            clear hWi hc
            refine wp_load_mid 33 _ rfl (b + 1) 32 (by simp [Act.eval, e73]) l2 _ (Grow.ofRange HBL.out hg) Tryd.underlying33 rfl HL2S.out ?_
            exact hK _ _ (Grow.refl _) hf.out
        · intro w1 hg Ar seen
          have e72 := seen.de 72 80
          have e74 := seen.de 74 82
          have eg := seen.de 70 78
          by_cases hc0 : (((((((((((!(O.id.toList == Q.id.toList)) || (O.typ != Q.typ)) || (O.alg != Q.alg)) || (O.len != Q.len)) || (O.mask != Q.mask)) || (!(m1.toList == m2.toList))) || (O.st != Q.st)) || (!dq)) || (O.reason != Q.reason)) || (!(O.msg.toList == Q.msg.toList))) : Bool) = true
          · have hc := hc0
            clear hc0
            rw [hc] at eg
            have hWi : (!((((((((((!(O.id.toList == Q.id.toList)) || (O.typ != Q.typ)) || (O.alg != Q.alg)) || (O.len != Q.len)) || (O.mask != Q.mask)) || (!(m1.toList == m2.toList))) || (O.st != Q.st)) || (!dq)) || (O.reason != Q.reason)) || (!(O.msg.toList == Q.msg.toList)))) = false := by rw [hc]; rfl
            exact does_off rfl (by kernel_rfl) eg ne_tf (Grow.refl _) (show undef = _ from (if_f hWi).symm)
          · have hc : (((((((((((!(O.id.toList == Q.id.toList)) || (O.typ != Q.typ)) || (O.alg != Q.alg)) || (O.len != Q.len)) || (O.mask != Q.mask)) || (!(m1.toList == m2.toList))) || (O.st != Q.st)) || (!dq)) || (O.reason != Q.reason)) || (!(O.msg.toList == Q.msg.toList))) : Bool) = false := by rw [← Bool.not_eq_true]; exact hc0
            clear hc0
            rw [hc] at eg
            have hWi : (!((((((((((!(O.id.toList == Q.id.toList)) || (O.typ != Q.typ)) || (O.alg != Q.alg)) || (O.len != Q.len)) || (O.mask != Q.mask)) || (!(m1.toList == m2.toList))) || (O.st != Q.st)) || (!dq)) || (O.reason != Q.reason)) || (!(O.msg.toList == Q.msg.toList)))) = true := by rw [hc]; rfl
            refine does_on rfl (by kernel_rfl) eg fun K Q' hK => ?_
            clear eg
            replace e72 := e72.trans (congrArg some (if_t hWi))
            replace e74 := e74.trans (congrArg some (if_t hWi))
            have hf : Hid ((.bool (!lq) : Value) = (if (!((((((((((!(O.id.toList == Q.id.toList)) || (O.typ != Q.typ)) || (O.alg != Q.alg)) || (O.len != Q.len)) || (O.mask != Q.mask)) || (!(m1.toList == m2.toList))) || (O.st != Q.st)) || (!dq)) || (O.reason != Q.reason)) || (!(O.msg.toList == Q.msg.toList)))) = true then .bool (!lq) else undef)) := (if_t hWi).symm
            clear hWi hc
            have hq := HLQ.out
            go_simp; exact hK _ _ (Grow.refl _) hf.out
        · intro w1 hg Ar seen
          have e70 := seen.de 70 78
          have e75 := seen.de 75 83
          refine does_plain rfl fun K Q' hK => ?_
          by_cases hp0 : (((((((((((!(O.id.toList == Q.id.toList)) || (O.typ != Q.typ)) || (O.alg != Q.alg)) || (O.len != Q.len)) || (O.mask != Q.mask)) || (!(m1.toList == m2.toList))) || (O.st != Q.st)) || (!dq)) || (O.reason != Q.reason)) || (!(O.msg.toList == Q.msg.toList))) : Bool) = true
          · have hp := hp0
            clear hp0
            rw [hp] at e70
            clear e75
            have hv := hid (by show (Value.bool true) = .bool (((((((((((!(O.id.toList == Q.id.toList)) || (O.typ != Q.typ)) || (O.alg != Q.alg)) || (O.len != Q.len)) || (O.mask != Q.mask)) || (!(m1.toList == m2.toList))) || (O.st != Q.st)) || (!dq)) || (O.reason != Q.reason)) || (!(O.msg.toList == Q.msg.toList))) || (!lq)); rw [hp]; rfl)
            clear hp
            go_simp; exact hK _ _ (Grow.refl _) hv.out
          · have hp : (((((((((((!(O.id.toList == Q.id.toList)) || (O.typ != Q.typ)) || (O.alg != Q.alg)) || (O.len != Q.len)) || (O.mask != Q.mask)) || (!(m1.toList == m2.toList))) || (O.st != Q.st)) || (!dq)) || (O.reason != Q.reason)) || (!(O.msg.toList == Q.msg.toList))) : Bool) = false := by rw [← Bool.not_eq_true]; exact hp0
            clear hp0
            rw [hp] at e70
            replace e75 := e75.trans (congrArg some (if_t (by rw [hp]; rfl)))
            have hv := hid (by show (Value.bool (!lq)) = .bool (((((((((((!(O.id.toList == Q.id.toList)) || (O.typ != Q.typ)) || (O.alg != Q.alg)) || (O.len != Q.len)) || (O.mask != Q.mask)) || (!(m1.toList == m2.toList))) || (O.st != Q.st)) || (!dq)) || (O.reason != Q.reason)) || (!(O.msg.toList == Q.msg.toList))) || (!lq)); rw [hp]; rfl)
            clear hp
            go_simp; exact hK _ _ (Grow.refl _) hv.out
        · intro w1 hg Ar seen
          have e76 := seen.de 76 84
          refine does_plain rfl fun K Q' hK => ?_
          go_simp; exact hK _ _ (Grow.refl _) rfl
        · intro w1 hg Ar seen
          have s2 := seen.sl 2 (.pointer (some ⟨b, 0, none⟩))
          have eg := seen.de 77 85
          by_cases hc0 : ((((((((((((!(O.id.toList == Q.id.toList)) || (O.typ != Q.typ)) || (O.alg != Q.alg)) || (O.len != Q.len)) || (O.mask != Q.mask)) || (!(m1.toList == m2.toList))) || (O.st != Q.st)) || (!dq)) || (O.reason != Q.reason)) || (!(O.msg.toList == Q.msg.toList))) || (!lq)) : Bool) = true
          · have hc := hc0
            clear hc0
            rw [hc] at eg
            have hWi : (!(((((((((((!(O.id.toList == Q.id.toList)) || (O.typ != Q.typ)) || (O.alg != Q.alg)) || (O.len != Q.len)) || (O.mask != Q.mask)) || (!(m1.toList == m2.toList))) || (O.st != Q.st)) || (!dq)) || (O.reason != Q.reason)) || (!(O.msg.toList == Q.msg.toList))) || (!lq))) = false := by rw [hc]; rfl
            exact does_off rfl (by kernel_rfl) eg ne_tf (Grow.refl _) (show undef = _ from (if_f hWi).symm)
          · have hc : ((((((((((((!(O.id.toList == Q.id.toList)) || (O.typ != Q.typ)) || (O.alg != Q.alg)) || (O.len != Q.len)) || (O.mask != Q.mask)) || (!(m1.toList == m2.toList))) || (O.st != Q.st)) || (!dq)) || (O.reason != Q.reason)) || (!(O.msg.toList == Q.msg.toList))) || (!lq)) : Bool) = false := by rw [← Bool.not_eq_true]; exact hc0
            clear hc0
            rw [hc] at eg
            have hWi : (!(((((((((((!(O.id.toList == Q.id.toList)) || (O.typ != Q.typ)) || (O.alg != Q.alg)) || (O.len != Q.len)) || (O.mask != Q.mask)) || (!(m1.toList == m2.toList))) || (O.st != Q.st)) || (!dq)) || (O.reason != Q.reason)) || (!(O.msg.toList == Q.msg.toList))) || (!lq))) = true := by rw [hc]; rfl
            refine does_on rfl (by kernel_rfl) eg fun K Q' hK => ?_
            clear eg
            have hf : Hid ((.pointer (some ⟨b, 36, none⟩) : Value) = (if (!(((((((((((!(O.id.toList == Q.id.toList)) || (O.typ != Q.typ)) || (O.alg != Q.alg)) || (O.len != Q.len)) || (O.mask != Q.mask)) || (!(m1.toList == m2.toList))) || (O.st != Q.st)) || (!dq)) || (O.reason != Q.reason)) || (!(O.msg.toList == Q.msg.toList))) || (!lq))) = true then .pointer (some ⟨b, 36, none⟩) else undef)) := (if_t hWi).symm
            clear hWi hc
            go_simp; exact hK _ _ (Grow.refl _) hf.out
        · intro w1 hg Ar seen
          have e78 := seen.de 78 86
          have eg := seen.de 77 85
          by_cases hc0 : ((((((((((((!(O.id.toList == Q.id.toList)) || (O.typ != Q.typ)) || (O.alg != Q.alg)) || (O.len != Q.len)) || (O.mask != Q.mask)) || (!(m1.toList == m2.toList))) || (O.st != Q.st)) || (!dq)) || (O.reason != Q.reason)) || (!(O.msg.toList == Q.msg.toList))) || (!lq)) : Bool) = true
          · have hc := hc0
            clear hc0
            rw [hc] at eg
            have hWi : (!(((((((((((!(O.id.toList == Q.id.toList)) || (O.typ != Q.typ)) || (O.alg != Q.alg)) || (O.len != Q.len)) || (O.mask != Q.mask)) || (!(m1.toList == m2.toList))) || (O.st != Q.st)) || (!dq)) || (O.reason != Q.reason)) || (!(O.msg.toList == Q.msg.toList))) || (!lq))) = false := by rw [hc]; rfl
            exact does_off rfl (by kernel_rfl) eg ne_tf (Grow.refl _) (show undef = _ from (if_f hWi).symm)
          · have hc : ((((((((((((!(O.id.toList == Q.id.toList)) || (O.typ != Q.typ)) || (O.alg != Q.alg)) || (O.len != Q.len)) || (O.mask != Q.mask)) || (!(m1.toList == m2.toList))) || (O.st != Q.st)) || (!dq)) || (O.reason != Q.reason)) || (!(O.msg.toList == Q.msg.toList))) || (!lq)) : Bool) = false := by rw [← Bool.not_eq_true]; exact hc0
            clear hc0
            rw [hc] at eg
            have hWi : (!(((((((((((!(O.id.toList == Q.id.toList)) || (O.typ != Q.typ)) || (O.alg != Q.alg)) || (O.len != Q.len)) || (O.mask != Q.mask)) || (!(m1.toList == m2.toList))) || (O.st != Q.st)) || (!dq)) || (O.reason != Q.reason)) || (!(O.msg.toList == Q.msg.toList))) || (!lq))) = true := by rw [hc]; rfl
            refine does_on rfl (by kernel_rfl) eg fun K Q' hK => ?_
            clear eg
            replace e78 := e78.trans (congrArg some (if_t hWi))
            have hf : Hid ((.bool O.arch : Value) = (if (!(((((((((((!(O.id.toList == Q.id.toList)) || (O.typ != Q.typ)) || (O.alg != Q.alg)) || (O.len != Q.len)) || (O.mask != Q.mask)) || (!(m1.toList == m2.toList))) || (O.st != Q.st)) || (!dq)) || (O.reason != Q.reason)) || (!(O.msg.toList == Q.msg.toList))) || (!lq))) = true then .bool O.arch else undef)) := (if_t hWi).symm
            clear hWi hc
            have hc0 := cell_of_block (j := 36) ((hg.block _ (block_lt S.out.one)).trans S.out.one) (oc36 O s)
            go_simp; exact hK _ _ (Grow.refl _) hf.out
        · intro w1 hg Ar seen
          have s3 := seen.sl 3 (.pointer (some ⟨b + 1, 0, none⟩))
          have eg := seen.de 77 85
          by_cases hc0 : ((((((((((((!(O.id.toList == Q.id.toList)) || (O.typ != Q.typ)) || (O.alg != Q.alg)) || (O.len != Q.len)) || (O.mask != Q.mask)) || (!(m1.toList == m2.toList))) || (O.st != Q.st)) || (!dq)) || (O.reason != Q.reason)) || (!(O.msg.toList == Q.msg.toList))) || (!lq)) : Bool) = true
          · have hc := hc0
            clear hc0
            rw [hc] at eg
            have hWi : (!(((((((((((!(O.id.toList == Q.id.toList)) || (O.typ != Q.typ)) || (O.alg != Q.alg)) || (O.len != Q.len)) || (O.mask != Q.mask)) || (!(m1.toList == m2.toList))) || (O.st != Q.st)) || (!dq)) || (O.reason != Q.reason)) || (!(O.msg.toList == Q.msg.toList))) || (!lq))) = false := by rw [hc]; rfl
            exact does_off rfl (by kernel_rfl) eg ne_tf (Grow.refl _) (show undef = _ from (if_f hWi).symm)
          · have hc : ((((((((((((!(O.id.toList == Q.id.toList)) || (O.typ != Q.typ)) || (O.alg != Q.alg)) || (O.len != Q.len)) || (O.mask != Q.mask)) || (!(m1.toList == m2.toList))) || (O.st != Q.st)) || (!dq)) || (O.reason != Q.reason)) || (!(O.msg.toList == Q.msg.toList))) || (!lq)) : Bool) = false := by rw [← Bool.not_eq_true]; exact hc0
            clear hc0
            rw [hc] at eg
            have hWi : (!(((((((((((!(O.id.toList == Q.id.toList)) || (O.typ != Q.typ)) || (O.alg != Q.alg)) || (O.len != Q.len)) || (O.mask != Q.mask)) || (!(m1.toList == m2.toList))) || (O.st != Q.st)) || (!dq)) || (O.reason != Q.reason)) || (!(O.msg.toList == Q.msg.toList))) || (!lq))) = true := by rw [hc]; rfl
            refine does_on rfl (by kernel_rfl) eg fun K Q' hK => ?_
            clear eg
            have hf : Hid ((.pointer (some ⟨b + 1, 36, none⟩) : Value) = (if (!(((((((((((!(O.id.toList == Q.id.toList)) || (O.typ != Q.typ)) || (O.alg != Q.alg)) || (O.len != Q.len)) || (O.mask != Q.mask)) || (!(m1.toList == m2.toList))) || (O.st != Q.st)) || (!dq)) || (O.reason != Q.reason)) || (!(O.msg.toList == Q.msg.toList))) || (!lq))) = true then .pointer (some ⟨b + 1, 36, none⟩) else undef)) := (if_t hWi).symm
            clear hWi hc
            go_simp; exact hK _ _ (Grow.refl _) hf.out
        · intro w1 hg Ar seen
          have e80 := seen.de 80 88
          have eg := seen.de 77 85
          by_cases hc0 : ((((((((((((!(O.id.toList == Q.id.toList)) || (O.typ != Q.typ)) || (O.alg != Q.alg)) || (O.len != Q.len)) || (O.mask != Q.mask)) || (!(m1.toList == m2.toList))) || (O.st != Q.st)) || (!dq)) || (O.reason != Q.reason)) || (!(O.msg.toList == Q.msg.toList))) || (!lq)) : Bool) = true
          · have hc := hc0
            clear hc0
            rw [hc] at eg
            have hWi : (!(((((((((((!(O.id.toList == Q.id.toList)) || (O.typ != Q.typ)) || (O.alg != Q.alg)) || (O.len != Q.len)) || (O.mask != Q.mask)) || (!(m1.toList == m2.toList))) || (O.st != Q.st)) || (!dq)) || (O.reason != Q.reason)) || (!(O.msg.toList == Q.msg.toList))) || (!lq))) = false := by rw [hc]; rfl
            exact does_off rfl (by kernel_rfl) eg ne_tf (Grow.refl _) (show undef = _ from (if_f hWi).symm)
          · have hc : ((((((((((((!(O.id.toList == Q.id.toList)) || (O.typ != Q.typ)) || (O.alg != Q.alg)) || (O.len != Q.len)) || (O.mask != Q.mask)) || (!(m1.toList == m2.toList))) || (O.st != Q.st)) || (!dq)) || (O.reason != Q.reason)) || (!(O.msg.toList == Q.msg.toList))) || (!lq)) : Bool) = false := by rw [← Bool.not_eq_true]; exact hc0
            clear hc0
            rw [hc] at eg
            have hWi : (!(((((((((((!(O.id.toList == Q.id.toList)) || (O.typ != Q.typ)) || (O.alg != Q.alg)) || (O.len != Q.len)) || (O.mask != Q.mask)) || (!(m1.toList == m2.toList))) || (O.st != Q.st)) || (!dq)) || (O.reason != Q.reason)) || (!(O.msg.toList == Q.msg.toList))) || (!lq))) = true := by rw [hc]; rfl
            refine does_on rfl (by kernel_rfl) eg fun K Q' hK => ?_
            clear eg
            replace e80 := e80.trans (congrArg some (if_t hWi))
            have hf : Hid ((.bool Q.arch : Value) = (if (!(((((((((((!(O.id.toList == Q.id.toList)) || (O.typ != Q.typ)) || (O.alg != Q.alg)) || (O.len != Q.len)) || (O.mask != Q.mask)) || (!(m1.toList == m2.toList))) || (O.st != Q.st)) || (!dq)) || (O.reason != Q.reason)) || (!(O.msg.toList == Q.msg.toList))) || (!lq))) = true then .bool Q.arch else undef)) := (if_t hWi).symm
            clear hWi hc
            have hc0 := cell_of_block (j := 36) ((hg.block _ (block_lt S.out.two)).trans S.out.two) (oc36 Q t)
            go_simp; exact hK _ _ (Grow.refl _) hf.out
        · intro w1 hg Ar seen
          have e79 := seen.de 79 87
          have e81 := seen.de 81 89
          have eg := seen.de 77 85
          by_cases hc0 : ((((((((((((!(O.id.toList == Q.id.toList)) || (O.typ != Q.typ)) || (O.alg != Q.alg)) || (O.len != Q.len)) || (O.mask != Q.mask)) || (!(m1.toList == m2.toList))) || (O.st != Q.st)) || (!dq)) || (O.reason != Q.reason)) || (!(O.msg.toList == Q.msg.toList))) || (!lq)) : Bool) = true
          · have hc := hc0
            clear hc0
            rw [hc] at eg
            have hWi : (!(((((((((((!(O.id.toList == Q.id.toList)) || (O.typ != Q.typ)) || (O.alg != Q.alg)) || (O.len != Q.len)) || (O.mask != Q.mask)) || (!(m1.toList == m2.toList))) || (O.st != Q.st)) || (!dq)) || (O.reason != Q.reason)) || (!(O.msg.toList == Q.msg.toList))) || (!lq))) = false := by rw [hc]; rfl
            exact does_off rfl (by kernel_rfl) eg ne_tf (Grow.refl _) (show undef = _ from (if_f hWi).symm)
          · have hc : ((((((((((((!(O.id.toList == Q.id.toList)) || (O.typ != Q.typ)) || (O.alg != Q.alg)) || (O.len != Q.len)) || (O.mask != Q.mask)) || (!(m1.toList == m2.toList))) || (O.st != Q.st)) || (!dq)) || (O.reason != Q.reason)) || (!(O.msg.toList == Q.msg.toList))) || (!lq)) : Bool) = false := by rw [← Bool.not_eq_true]; exact hc0
            clear hc0
            rw [hc] at eg
            have hWi : (!(((((((((((!(O.id.toList == Q.id.toList)) || (O.typ != Q.typ)) || (O.alg != Q.alg)) || (O.len != Q.len)) || (O.mask != Q.mask)) || (!(m1.toList == m2.toList))) || (O.st != Q.st)) || (!dq)) || (O.reason != Q.reason)) || (!(O.msg.toList == Q.msg.toList))) || (!lq))) = true := by rw [hc]; rfl
            refine does_on rfl (by kernel_rfl) eg fun K Q' hK => ?_
            clear eg
            replace e79 := e79.trans (congrArg some (if_t hWi))
            replace e81 := e81.trans (congrArg some (if_t hWi))
            have hf : Hid ((.bool (O.arch != Q.arch) : Value) = (if (!(((((((((((!(O.id.toList == Q.id.toList)) || (O.typ != Q.typ)) || (O.alg != Q.alg)) || (O.len != Q.len)) || (O.mask != Q.mask)) || (!(m1.toList == m2.toList))) || (O.st != Q.st)) || (!dq)) || (O.reason != Q.reason)) || (!(O.msg.toList == Q.msg.toList))) || (!lq))) = true then .bool (O.arch != Q.arch) else undef)) := (if_t hWi).symm
            clear hWi hc
            go_simp; exact hK _ _ (Grow.refl _) hf.out
        · intro w1 hg Ar seen
          have e77 := seen.de 77 85
          have e82 := seen.de 82 90
          refine does_plain rfl fun K Q' hK => ?_
          by_cases hp0 : ((((((((((((!(O.id.toList == Q.id.toList)) || (O.typ != Q.typ)) || (O.alg != Q.alg)) || (O.len != Q.len)) || (O.mask != Q.mask)) || (!(m1.toList == m2.toList))) || (O.st != Q.st)) || (!dq)) || (O.reason != Q.reason)) || (!(O.msg.toList == Q.msg.toList))) || (!lq)) : Bool) = true
          · have hp := hp0
            clear hp0
            rw [hp] at e77
            clear e82
            have hv := hid (by show (Value.bool true) = .bool ((((((((((((!(O.id.toList == Q.id.toList)) || (O.typ != Q.typ)) || (O.alg != Q.alg)) || (O.len != Q.len)) || (O.mask != Q.mask)) || (!(m1.toList == m2.toList))) || (O.st != Q.st)) || (!dq)) || (O.reason != Q.reason)) || (!(O.msg.toList == Q.msg.toList))) || (!lq)) || (O.arch != Q.arch)); rw [hp]; rfl)
            clear hp
            go_simp; exact hK _ _ (Grow.refl _) hv.out
          · have hp : ((((((((((((!(O.id.toList == Q.id.toList)) || (O.typ != Q.typ)) || (O.alg != Q.alg)) || (O.len != Q.len)) || (O.mask != Q.mask)) || (!(m1.toList == m2.toList))) || (O.st != Q.st)) || (!dq)) || (O.reason != Q.reason)) || (!(O.msg.toList == Q.msg.toList))) || (!lq)) : Bool) = false := by rw [← Bool.not_eq_true]; exact hp0
            clear hp0
            rw [hp] at e77
            replace e82 := e82.trans (congrArg some (if_t (by rw [hp]; rfl)))
            have hv := hid (by show (Value.bool (O.arch != Q.arch)) = .bool ((((((((((((!(O.id.toList == Q.id.toList)) || (O.typ != Q.typ)) || (O.alg != Q.alg)) || (O.len != Q.len)) || (O.mask != Q.mask)) || (!(m1.toList == m2.toList))) || (O.st != Q.st)) || (!dq)) || (O.reason != Q.reason)) || (!(O.msg.toList == Q.msg.toList))) || (!lq)) || (O.arch != Q.arch)); rw [hp]; rfl)
            clear hp
            go_simp; exact hK _ _ (Grow.refl _) hv.out
        · intro w1 hg Ar seen
          have e83 := seen.de 83 91
          refine does_plain rfl fun K Q' hK => ?_
          go_simp; exact hK _ _ (Grow.refl _) rfl
        · intro w1 hg Ar seen
          have s2 := seen.sl 2 (.pointer (some ⟨b, 0, none⟩))
          have eg := seen.de 84 92
          by_cases hc0 : (((((((((((((!(O.id.toList == Q.id.toList)) || (O.typ != Q.typ)) || (O.alg != Q.alg)) || (O.len != Q.len)) || (O.mask != Q.mask)) || (!(m1.toList == m2.toList))) || (O.st != Q.st)) || (!dq)) || (O.reason != Q.reason)) || (!(O.msg.toList == Q.msg.toList))) || (!lq)) || (O.arch != Q.arch)) : Bool) = true
          · have hc := hc0
            clear hc0
            rw [hc] at eg
            have hWi : (!((((((((((((!(O.id.toList == Q.id.toList)) || (O.typ != Q.typ)) || (O.alg != Q.alg)) || (O.len != Q.len)) || (O.mask != Q.mask)) || (!(m1.toList == m2.toList))) || (O.st != Q.st)) || (!dq)) || (O.reason != Q.reason)) || (!(O.msg.toList == Q.msg.toList))) || (!lq)) || (O.arch != Q.arch))) = false := by rw [hc]; rfl
            exact does_off rfl (by kernel_rfl) eg ne_tf (Grow.refl _) (show undef = _ from (if_f hWi).symm)
          · have hc : (((((((((((((!(O.id.toList == Q.id.toList)) || (O.typ != Q.typ)) || (O.alg != Q.alg)) || (O.len != Q.len)) || (O.mask != Q.mask)) || (!(m1.toList == m2.toList))) || (O.st != Q.st)) || (!dq)) || (O.reason != Q.reason)) || (!(O.msg.toList == Q.msg.toList))) || (!lq)) || (O.arch != Q.arch)) : Bool) = false := by rw [← Bool.not_eq_true]; exact hc0
            clear hc0
            rw [hc] at eg
            have hWi : (!((((((((((((!(O.id.toList == Q.id.toList)) || (O.typ != Q.typ)) || (O.alg != Q.alg)) || (O.len != Q.len)) || (O.mask != Q.mask)) || (!(m1.toList == m2.toList))) || (O.st != Q.st)) || (!dq)) || (O.reason != Q.reason)) || (!(O.msg.toList == Q.msg.toList))) || (!lq)) || (O.arch != Q.arch))) = true := by rw [hc]; rfl
            refine does_on rfl (by kernel_rfl) eg fun K Q' hK => ?_
            clear eg
            have hf : Hid ((.pointer (some ⟨b, 29, none⟩) : Value) = (if (!((((((((((((!(O.id.toList == Q.id.toList)) || (O.typ != Q.typ)) || (O.alg != Q.alg)) || (O.len != Q.len)) || (O.mask != Q.mask)) || (!(m1.toList == m2.toList))) || (O.st != Q.st)) || (!dq)) || (O.reason != Q.reason)) || (!(O.msg.toList == Q.msg.toList))) || (!lq)) || (O.arch != Q.arch))) = true then .pointer (some ⟨b, 29, none⟩) else undef)) := (if_t hWi).symm
            clear hWi hc
            go_simp; exact hK _ _ (Grow.refl _) hf.out
        · intro w1 hg Ar seen
          have e85 := seen.de 85 93
          have eg := seen.de 84 92
          by_cases hc0 : (((((((((((((!(O.id.toList == Q.id.toList)) || (O.typ != Q.typ)) || (O.alg != Q.alg)) || (O.len != Q.len)) || (O.mask != Q.mask)) || (!(m1.toList == m2.toList))) || (O.st != Q.st)) || (!dq)) || (O.reason != Q.reason)) || (!(O.msg.toList == Q.msg.toList))) || (!lq)) || (O.arch != Q.arch)) : Bool) = true
          · have hc := hc0
            clear hc0
            rw [hc] at eg
            have hWi : (!((((((((((((!(O.id.toList == Q.id.toList)) || (O.typ != Q.typ)) || (O.alg != Q.alg)) || (O.len != Q.len)) || (O.mask != Q.mask)) || (!(m1.toList == m2.toList))) || (O.st != Q.st)) || (!dq)) || (O.reason != Q.reason)) || (!(O.msg.toList == Q.msg.toList))) || (!lq)) || (O.arch != Q.arch))) = false := by rw [hc]; rfl
            exact does_off rfl (by kernel_rfl) eg ne_tf (Grow.refl _) (show undef = _ from (if_f hWi).symm)
          · have hc : (((((((((((((!(O.id.toList == Q.id.toList)) || (O.typ != Q.typ)) || (O.alg != Q.alg)) || (O.len != Q.len)) || (O.mask != Q.mask)) || (!(m1.toList == m2.toList))) || (O.st != Q.st)) || (!dq)) || (O.reason != Q.reason)) || (!(O.msg.toList == Q.msg.toList))) || (!lq)) || (O.arch != Q.arch)) : Bool) = false := by rw [← Bool.not_eq_true]; exact hc0
            clear hc0
            rw [hc] at eg
            have hWi : (!((((((((((((!(O.id.toList == Q.id.toList)) || (O.typ != Q.typ)) || (O.alg != Q.alg)) || (O.len != Q.len)) || (O.mask != Q.mask)) || (!(m1.toList == m2.toList))) || (O.st != Q.st)) || (!dq)) || (O.reason != Q.reason)) || (!(O.msg.toList == Q.msg.toList))) || (!lq)) || (O.arch != Q.arch))) = true := by rw [hc]; rfl
            refine does_on rfl (by kernel_rfl) eg fun K Q' hK => ?_
            clear eg
            replace e85 := e85.trans (congrArg some (if_t hWi))
            have hf : Hid ((.slice s.names.a s.names.n s.names.c : Value) = (if (!((((((((((((!(O.id.toList == Q.id.toList)) || (O.typ != Q.typ)) || (O.alg != Q.alg)) || (O.len != Q.len)) || (O.mask != Q.mask)) || (!(m1.toList == m2.toList))) || (O.st != Q.st)) || (!dq)) || (O.reason != Q.reason)) || (!(O.msg.toList == Q.msg.toList))) || (!lq)) || (O.arch != Q.arch))) = true then .slice s.names.a s.names.n s.names.c else undef)) := (if_t hWi).symm
            clear hWi hc
            have hc0 := cell_of_block (j := 29) ((hg.block _ (block_lt S.out.one)).trans S.out.one) (oc29 O s)
            go_simp; exact hK _ _ (Grow.refl _) hf.out
        · intro w1 hg Ar seen
          have e86 := seen.de 86 94
          have eg := seen.de 84 92
          by_cases hc0 : (((((((((((((!(O.id.toList == Q.id.toList)) || (O.typ != Q.typ)) || (O.alg != Q.alg)) || (O.len != Q.len)) || (O.mask != Q.mask)) || (!(m1.toList == m2.toList))) || (O.st != Q.st)) || (!dq)) || (O.reason != Q.reason)) || (!(O.msg.toList == Q.msg.toList))) || (!lq)) || (O.arch != Q.arch)) : Bool) = true
          · have hc := hc0
            clear hc0
            rw [hc] at eg
            have hWi : (!((((((((((((!(O.id.toList == Q.id.toList)) || (O.typ != Q.typ)) || (O.alg != Q.alg)) || (O.len != Q.len)) || (O.mask != Q.mask)) || (!(m1.toList == m2.toList))) || (O.st != Q.st)) || (!dq)) || (O.reason != Q.reason)) || (!(O.msg.toList == Q.msg.toList))) || (!lq)) || (O.arch != Q.arch))) = false := by rw [hc]; rfl
            exact does_off rfl (by kernel_rfl) eg ne_tf (Grow.refl _) (show undef = _ from (if_f hWi).symm)
          · have hc : (((((((((((((!(O.id.toList == Q.id.toList)) || (O.typ != Q.typ)) || (O.alg != Q.alg)) || (O.len != Q.len)) || (O.mask != Q.mask)) || (!(m1.toList == m2.toList))) || (O.st != Q.st)) || (!dq)) || (O.reason != Q.reason)) || (!(O.msg.toList == Q.msg.toList))) || (!lq)) || (O.arch != Q.arch)) : Bool) = false := by rw [← Bool.not_eq_true]; exact hc0
            clear hc0
            rw [hc] at eg
            have hWi : (!((((((((((((!(O.id.toList == Q.id.toList)) || (O.typ != Q.typ)) || (O.alg != Q.alg)) || (O.len != Q.len)) || (O.mask != Q.mask)) || (!(m1.toList == m2.toList))) || (O.st != Q.st)) || (!dq)) || (O.reason != Q.reason)) || (!(O.msg.toList == Q.msg.toList))) || (!lq)) || (O.arch != Q.arch))) = true := by rw [hc]; rfl
            refine does_on rfl (by kernel_rfl) eg fun K Q' hK => ?_
            clear eg
            replace e86 := e86.trans (congrArg some (if_t hWi))
            have hf : Hid ((.int .i64 (s.names.n : Int) : Value) = (if (!((((((((((((!(O.id.toList == Q.id.toList)) || (O.typ != Q.typ)) || (O.alg != Q.alg)) || (O.len != Q.len)) || (O.mask != Q.mask)) || (!(m1.toList == m2.toList))) || (O.st != Q.st)) || (!dq)) || (O.reason != Q.reason)) || (!(O.msg.toList == Q.msg.toList))) || (!lq)) || (O.arch != Q.arch))) = true then .int .i64 (s.names.n : Int) else undef)) := (if_t hWi).symm
            clear hWi hc
            go_simp; exact hK _ _ (Grow.refl _) hf.out
        · intro w1 hg Ar seen
          have s3 := seen.sl 3 (.pointer (some ⟨b + 1, 0, none⟩))
          have eg := seen.de 84 92
          by_cases hc0 : (((((((((((((!(O.id.toList == Q.id.toList)) || (O.typ != Q.typ)) || (O.alg != Q.alg)) || (O.len != Q.len)) || (O.mask != Q.mask)) || (!(m1.toList == m2.toList))) || (O.st != Q.st)) || (!dq)) || (O.reason != Q.reason)) || (!(O.msg.toList == Q.msg.toList))) || (!lq)) || (O.arch != Q.arch)) : Bool) = true
          · have hc := hc0
            clear hc0
            rw [hc] at eg
            have hWi : (!((((((((((((!(O.id.toList == Q.id.toList)) || (O.typ != Q.typ)) || (O.alg != Q.alg)) || (O.len != Q.len)) || (O.mask != Q.mask)) || (!(m1.toList == m2.toList))) || (O.st != Q.st)) || (!dq)) || (O.reason != Q.reason)) || (!(O.msg.toList == Q.msg.toList))) || (!lq)) || (O.arch != Q.arch))) = false := by rw [hc]; rfl
            exact does_off rfl (by kernel_rfl) eg ne_tf (Grow.refl _) (show undef = _ from (if_f hWi).symm)
          · have hc : (((((((((((((!(O.id.toList == Q.id.toList)) || (O.typ != Q.typ)) || (O.alg != Q.alg)) || (O.len != Q.len)) || (O.mask != Q.mask)) || (!(m1.toList == m2.toList))) || (O.st != Q.st)) || (!dq)) || (O.reason != Q.reason)) || (!(O.msg.toList == Q.msg.toList))) || (!lq)) || (O.arch != Q.arch)) : Bool) = false := by rw [← Bool.not_eq_true]; exact hc0
            clear hc0
            rw [hc] at eg
            have hWi : (!((((((((((((!(O.id.toList == Q.id.toList)) || (O.typ != Q.typ)) || (O.alg != Q.alg)) || (O.len != Q.len)) || (O.mask != Q.mask)) || (!(m1.toList == m2.toList))) || (O.st != Q.st)) || (!dq)) || (O.reason != Q.reason)) || (!(O.msg.toList == Q.msg.toList))) || (!lq)) || (O.arch != Q.arch))) = true := by rw [hc]; rfl
            refine does_on rfl (by kernel_rfl) eg fun K Q' hK => ?_
            clear eg
            have hf : Hid ((.pointer (some ⟨b + 1, 29, none⟩) : Value) = (if (!((((((((((((!(O.id.toList == Q.id.toList)) || (O.typ != Q.typ)) || (O.alg != Q.alg)) || (O.len != Q.len)) || (O.mask != Q.mask)) || (!(m1.toList == m2.toList))) || (O.st != Q.st)) || (!dq)) || (O.reason != Q.reason)) || (!(O.msg.toList == Q.msg.toList))) || (!lq)) || (O.arch != Q.arch))) = true then .pointer (some ⟨b + 1, 29, none⟩) else undef)) := (if_t hWi).symm
            clear hWi hc
            go_simp; exact hK _ _ (Grow.refl _) hf.out
        · intro w1 hg Ar seen
          have e88 := seen.de 88 96
          have eg := seen.de 84 92
          by_cases hc0 : (((((((((((((!(O.id.toList == Q.id.toList)) || (O.typ != Q.typ)) || (O.alg != Q.alg)) || (O.len != Q.len)) || (O.mask != Q.mask)) || (!(m1.toList == m2.toList))) || (O.st != Q.st)) || (!dq)) || (O.reason != Q.reason)) || (!(O.msg.toList == Q.msg.toList))) || (!lq)) || (O.arch != Q.arch)) : Bool) = true
          · have hc := hc0
            clear hc0
            rw [hc] at eg
            have hWi : (!((((((((((((!(O.id.toList == Q.id.toList)) || (O.typ != Q.typ)) || (O.alg != Q.alg)) || (O.len != Q.len)) || (O.mask != Q.mask)) || (!(m1.toList == m2.toList))) || (O.st != Q.st)) || (!dq)) || (O.reason != Q.reason)) || (!(O.msg.toList == Q.msg.toList))) || (!lq)) || (O.arch != Q.arch))) = false := by rw [hc]; rfl
            exact does_off rfl (by kernel_rfl) eg ne_tf (Grow.refl _) (show undef = _ from (if_f hWi).symm)
          · have hc : (((((((((((((!(O.id.toList == Q.id.toList)) || (O.typ != Q.typ)) || (O.alg != Q.alg)) || (O.len != Q.len)) || (O.mask != Q.mask)) || (!(m1.toList == m2.toList))) || (O.st != Q.st)) || (!dq)) || (O.reason != Q.reason)) || (!(O.msg.toList == Q.msg.toList))) || (!lq)) || (O.arch != Q.arch)) : Bool) = false := by rw [← Bool.not_eq_true]; exact hc0
            clear hc0
            rw [hc] at eg
            have hWi : (!((((((((((((!(O.id.toList == Q.id.toList)) || (O.typ != Q.typ)) || (O.alg != Q.alg)) || (O.len != Q.len)) || (O.mask != Q.mask)) || (!(m1.toList == m2.toList))) || (O.st != Q.st)) || (!dq)) || (O.reason != Q.reason)) || (!(O.msg.toList == Q.msg.toList))) || (!lq)) || (O.arch != Q.arch))) = true := by rw [hc]; rfl
            refine does_on rfl (by kernel_rfl) eg fun K Q' hK => ?_
            clear eg
            replace e88 := e88.trans (congrArg some (if_t hWi))
            have hf : Hid ((.slice t.names.a t.names.n t.names.c : Value) = (if (!((((((((((((!(O.id.toList == Q.id.toList)) || (O.typ != Q.typ)) || (O.alg != Q.alg)) || (O.len != Q.len)) || (O.mask != Q.mask)) || (!(m1.toList == m2.toList))) || (O.st != Q.st)) || (!dq)) || (O.reason != Q.reason)) || (!(O.msg.toList == Q.msg.toList))) || (!lq)) || (O.arch != Q.arch))) = true then .slice t.names.a t.names.n t.names.c else undef)) := (if_t hWi).symm
            clear hWi hc
            have hc0 := cell_of_block (j := 29) ((hg.block _ (block_lt S.out.two)).trans S.out.two) (oc29 Q t)
            go_simp; exact hK _ _ (Grow.refl _) hf.out
        · intro w1 hg Ar seen
          have e89 := seen.de 89 97
          have eg := seen.de 84 92
          by_cases hc0 : (((((((((((((!(O.id.toList == Q.id.toList)) || (O.typ != Q.typ)) || (O.alg != Q.alg)) || (O.len != Q.len)) || (O.mask != Q.mask)) || (!(m1.toList == m2.toList))) || (O.st != Q.st)) || (!dq)) || (O.reason != Q.reason)) || (!(O.msg.toList == Q.msg.toList))) || (!lq)) || (O.arch != Q.arch)) : Bool) = true
          · have hc := hc0
            clear hc0
            rw [hc] at eg
            have hWi : (!((((((((((((!(O.id.toList == Q.id.toList)) || (O.typ != Q.typ)) || (O.alg != Q.alg)) || (O.len != Q.len)) || (O.mask != Q.mask)) || (!(m1.toList == m2.toList))) || (O.st != Q.st)) || (!dq)) || (O.reason != Q.reason)) || (!(O.msg.toList == Q.msg.toList))) || (!lq)) || (O.arch != Q.arch))) = false := by rw [hc]; rfl
            exact does_off rfl (by kernel_rfl) eg ne_tf (Grow.refl _) (show undef = _ from (if_f hWi).symm)
          · have hc : (((((((((((((!(O.id.toList == Q.id.toList)) || (O.typ != Q.typ)) || (O.alg != Q.alg)) || (O.len != Q.len)) || (O.mask != Q.mask)) || (!(m1.toList == m2.toList))) || (O.st != Q.st)) || (!dq)) || (O.reason != Q.reason)) || (!(O.msg.toList == Q.msg.toList))) || (!lq)) || (O.arch != Q.arch)) : Bool) = false := by rw [← Bool.not_eq_true]; exact hc0
            clear hc0
            rw [hc] at eg
            have hWi : (!((((((((((((!(O.id.toList == Q.id.toList)) || (O.typ != Q.typ)) || (O.alg != Q.alg)) || (O.len != Q.len)) || (O.mask != Q.mask)) || (!(m1.toList == m2.toList))) || (O.st != Q.st)) || (!dq)) || (O.reason != Q.reason)) || (!(O.msg.toList == Q.msg.toList))) || (!lq)) || (O.arch != Q.arch))) = true := by rw [hc]; rfl
            refine does_on rfl (by kernel_rfl) eg fun K Q' hK => ?_
            clear eg
            replace e89 := e89.trans (congrArg some (if_t hWi))
            have hf : Hid ((.int .i64 (t.names.n : Int) : Value) = (if (!((((((((((((!(O.id.toList == Q.id.toList)) || (O.typ != Q.typ)) || (O.alg != Q.alg)) || (O.len != Q.len)) || (O.mask != Q.mask)) || (!(m1.toList == m2.toList))) || (O.st != Q.st)) || (!dq)) || (O.reason != Q.reason)) || (!(O.msg.toList == Q.msg.toList))) || (!lq)) || (O.arch != Q.arch))) = true then .int .i64 (t.names.n : Int) else undef)) := (if_t hWi).symm
            clear hWi hc
            go_simp; exact hK _ _ (Grow.refl _) hf.out
        · intro w1 hg Ar seen
          have e87 := seen.de 87 95
          have e90 := seen.de 90 98
          have eg := seen.de 84 92
          by_cases hc0 : (((((((((((((!(O.id.toList == Q.id.toList)) || (O.typ != Q.typ)) || (O.alg != Q.alg)) || (O.len != Q.len)) || (O.mask != Q.mask)) || (!(m1.toList == m2.toList))) || (O.st != Q.st)) || (!dq)) || (O.reason != Q.reason)) || (!(O.msg.toList == Q.msg.toList))) || (!lq)) || (O.arch != Q.arch)) : Bool) = true
          · have hc := hc0
            clear hc0
            rw [hc] at eg
            have hWi : (!((((((((((((!(O.id.toList == Q.id.toList)) || (O.typ != Q.typ)) || (O.alg != Q.alg)) || (O.len != Q.len)) || (O.mask != Q.mask)) || (!(m1.toList == m2.toList))) || (O.st != Q.st)) || (!dq)) || (O.reason != Q.reason)) || (!(O.msg.toList == Q.msg.toList))) || (!lq)) || (O.arch != Q.arch))) = false := by rw [hc]; rfl
            exact does_off rfl (by kernel_rfl) eg ne_tf (Grow.refl _) (show undef = _ from (if_f hWi).symm)
          · have hc : (((((((((((((!(O.id.toList == Q.id.toList)) || (O.typ != Q.typ)) || (O.alg != Q.alg)) || (O.len != Q.len)) || (O.mask != Q.mask)) || (!(m1.toList == m2.toList))) || (O.st != Q.st)) || (!dq)) || (O.reason != Q.reason)) || (!(O.msg.toList == Q.msg.toList))) || (!lq)) || (O.arch != Q.arch)) : Bool) = false := by rw [← Bool.not_eq_true]; exact hc0
            clear hc0
            rw [hc] at eg
            have hWi : (!((((((((((((!(O.id.toList == Q.id.toList)) || (O.typ != Q.typ)) || (O.alg != Q.alg)) || (O.len != Q.len)) || (O.mask != Q.mask)) || (!(m1.toList == m2.toList))) || (O.st != Q.st)) || (!dq)) || (O.reason != Q.reason)) || (!(O.msg.toList == Q.msg.toList))) || (!lq)) || (O.arch != Q.arch))) = true := by rw [hc]; rfl
            refine does_on rfl (by kernel_rfl) eg fun K Q' hK => ?_
            clear eg
            replace e87 := e87.trans (congrArg some (if_t hWi))
            replace e90 := e90.trans (congrArg some (if_t hWi))
            have hf : Hid ((.bool ((s.names.n : Int) != (t.names.n : Int)) : Value) = (if (!((((((((((((!(O.id.toList == Q.id.toList)) || (O.typ != Q.typ)) || (O.alg != Q.alg)) || (O.len != Q.len)) || (O.mask != Q.mask)) || (!(m1.toList == m2.toList))) || (O.st != Q.st)) || (!dq)) || (O.reason != Q.reason)) || (!(O.msg.toList == Q.msg.toList))) || (!lq)) || (O.arch != Q.arch))) = true then .bool ((s.names.n : Int) != (t.names.n : Int)) else undef)) := (if_t hWi).symm
            clear hWi hc
            go_simp; exact hK _ _ (Grow.refl _) hf.out
        · intro w1 hg Ar seen
          have e84 := seen.de 84 92
          have e91 := seen.de 91 99
          refine does_plain rfl fun K Q' hK => ?_
          by_cases hp0 : (((((((((((((!(O.id.toList == Q.id.toList)) || (O.typ != Q.typ)) || (O.alg != Q.alg)) || (O.len != Q.len)) || (O.mask != Q.mask)) || (!(m1.toList == m2.toList))) || (O.st != Q.st)) || (!dq)) || (O.reason != Q.reason)) || (!(O.msg.toList == Q.msg.toList))) || (!lq)) || (O.arch != Q.arch)) : Bool) = true
          · have hp := hp0
            clear hp0
            rw [hp] at e84
            clear e91
            have hv := hid (by show (Value.bool true) = .bool (((((((((((((!(O.id.toList == Q.id.toList)) || (O.typ != Q.typ)) || (O.alg != Q.alg)) || (O.len != Q.len)) || (O.mask != Q.mask)) || (!(m1.toList == m2.toList))) || (O.st != Q.st)) || (!dq)) || (O.reason != Q.reason)) || (!(O.msg.toList == Q.msg.toList))) || (!lq)) || (O.arch != Q.arch)) || ((s.names.n : Int) != (t.names.n : Int))); rw [hp]; rfl)
            clear hp
            go_simp; exact hK _ _ (Grow.refl _) hv.out
          · have hp : (((((((((((((!(O.id.toList == Q.id.toList)) || (O.typ != Q.typ)) || (O.alg != Q.alg)) || (O.len != Q.len)) || (O.mask != Q.mask)) || (!(m1.toList == m2.toList))) || (O.st != Q.st)) || (!dq)) || (O.reason != Q.reason)) || (!(O.msg.toList == Q.msg.toList))) || (!lq)) || (O.arch != Q.arch)) : Bool) = false := by rw [← Bool.not_eq_true]; exact hp0
            clear hp0
            rw [hp] at e84
            replace e91 := e91.trans (congrArg some (if_t (by rw [hp]; rfl)))
            have hv := hid (by show (Value.bool ((s.names.n : Int) != (t.names.n : Int))) = .bool (((((((((((((!(O.id.toList == Q.id.toList)) || (O.typ != Q.typ)) || (O.alg != Q.alg)) || (O.len != Q.len)) || (O.mask != Q.mask)) || (!(m1.toList == m2.toList))) || (O.st != Q.st)) || (!dq)) || (O.reason != Q.reason)) || (!(O.msg.toList == Q.msg.toList))) || (!lq)) || (O.arch != Q.arch)) || ((s.names.n : Int) != (t.names.n : Int))); rw [hp]; rfl)
            clear hp
            go_simp; exact hK _ _ (Grow.refl _) hv.out
        · intro w1 hg Ar seen
          have e92 := seen.de 92 100
          refine does_plain rfl fun K Q' hK => ?_
          go_simp; exact hK _ _ (Grow.refl _) rfl
        · intro w1 hg Ar seen
          have s2 := seen.sl 2 (.pointer (some ⟨b, 0, none⟩))
          have eg := seen.de 93 101
          by_cases hc0 : ((((((((((((((!(O.id.toList == Q.id.toList)) || (O.typ != Q.typ)) || (O.alg != Q.alg)) || (O.len != Q.len)) || (O.mask != Q.mask)) || (!(m1.toList == m2.toList))) || (O.st != Q.st)) || (!dq)) || (O.reason != Q.reason)) || (!(O.msg.toList == Q.msg.toList))) || (!lq)) || (O.arch != Q.arch)) || ((s.names.n : Int) != (t.names.n : Int))) : Bool) = true
          · have hc := hc0
            clear hc0
            rw [hc] at eg
            have hWi : (!(((((((((((((!(O.id.toList == Q.id.toList)) || (O.typ != Q.typ)) || (O.alg != Q.alg)) || (O.len != Q.len)) || (O.mask != Q.mask)) || (!(m1.toList == m2.toList))) || (O.st != Q.st)) || (!dq)) || (O.reason != Q.reason)) || (!(O.msg.toList == Q.msg.toList))) || (!lq)) || (O.arch != Q.arch)) || ((s.names.n : Int) != (t.names.n : Int)))) = false := by rw [hc]; rfl
            exact does_off rfl (by kernel_rfl) eg ne_tf (Grow.refl _) (show undef = _ from (if_f hWi).symm)
          · have hc : ((((((((((((((!(O.id.toList == Q.id.toList)) || (O.typ != Q.typ)) || (O.alg != Q.alg)) || (O.len != Q.len)) || (O.mask != Q.mask)) || (!(m1.toList == m2.toList))) || (O.st != Q.st)) || (!dq)) || (O.reason != Q.reason)) || (!(O.msg.toList == Q.msg.toList))) || (!lq)) || (O.arch != Q.arch)) || ((s.names.n : Int) != (t.names.n : Int))) : Bool) = false := by rw [← Bool.not_eq_true]; exact hc0
            clear hc0
            rw [hc] at eg
            have hWi : (!(((((((((((((!(O.id.toList == Q.id.toList)) || (O.typ != Q.typ)) || (O.alg != Q.alg)) || (O.len != Q.len)) || (O.mask != Q.mask)) || (!(m1.toList == m2.toList))) || (O.st != Q.st)) || (!dq)) || (O.reason != Q.reason)) || (!(O.msg.toList == Q.msg.toList))) || (!lq)) || (O.arch != Q.arch)) || ((s.names.n : Int) != (t.names.n : Int)))) = true := by rw [hc]; rfl
            refine does_on rfl (by kernel_rfl) eg fun K Q' hK => ?_
            clear eg
            have hf : Hid ((.pointer (some ⟨b, 30, none⟩) : Value) = (if (!(((((((((((((!(O.id.toList == Q.id.toList)) || (O.typ != Q.typ)) || (O.alg != Q.alg)) || (O.len != Q.len)) || (O.mask != Q.mask)) || (!(m1.toList == m2.toList))) || (O.st != Q.st)) || (!dq)) || (O.reason != Q.reason)) || (!(O.msg.toList == Q.msg.toList))) || (!lq)) || (O.arch != Q.arch)) || ((s.names.n : Int) != (t.names.n : Int)))) = true then .pointer (some ⟨b, 30, none⟩) else undef)) := (if_t hWi).symm
            clear hWi hc
            go_simp; exact hK _ _ (Grow.refl _) hf.out
        · intro w1 hg Ar seen
          have e94 := seen.de 94 102
          have eg := seen.de 93 101
          by_cases hc0 : ((((((((((((((!(O.id.toList == Q.id.toList)) || (O.typ != Q.typ)) || (O.alg != Q.alg)) || (O.len != Q.len)) || (O.mask != Q.mask)) || (!(m1.toList == m2.toList))) || (O.st != Q.st)) || (!dq)) || (O.reason != Q.reason)) || (!(O.msg.toList == Q.msg.toList))) || (!lq)) || (O.arch != Q.arch)) || ((s.names.n : Int) != (t.names.n : Int))) : Bool) = true
          · have hc := hc0
            clear hc0
            rw [hc] at eg
            have hWi : (!(((((((((((((!(O.id.toList == Q.id.toList)) || (O.typ != Q.typ)) || (O.alg != Q.alg)) || (O.len != Q.len)) || (O.mask != Q.mask)) || (!(m1.toList == m2.toList))) || (O.st != Q.st)) || (!dq)) || (O.reason != Q.reason)) || (!(O.msg.toList == Q.msg.toList))) || (!lq)) || (O.arch != Q.arch)) || ((s.names.n : Int) != (t.names.n : Int)))) = false := by rw [hc]; rfl
            exact does_off rfl (by kernel_rfl) eg ne_tf (Grow.refl _) (show undef = _ from (if_f hWi).symm)
          · have hc : ((((((((((((((!(O.id.toList == Q.id.toList)) || (O.typ != Q.typ)) || (O.alg != Q.alg)) || (O.len != Q.len)) || (O.mask != Q.mask)) || (!(m1.toList == m2.toList))) || (O.st != Q.st)) || (!dq)) || (O.reason != Q.reason)) || (!(O.msg.toList == Q.msg.toList))) || (!lq)) || (O.arch != Q.arch)) || ((s.names.n : Int) != (t.names.n : Int))) : Bool) = false := by rw [← Bool.not_eq_true]; exact hc0
            clear hc0
            rw [hc] at eg
            have hWi : (!(((((((((((((!(O.id.toList == Q.id.toList)) || (O.typ != Q.typ)) || (O.alg != Q.alg)) || (O.len != Q.len)) || (O.mask != Q.mask)) || (!(m1.toList == m2.toList))) || (O.st != Q.st)) || (!dq)) || (O.reason != Q.reason)) || (!(O.msg.toList == Q.msg.toList))) || (!lq)) || (O.arch != Q.arch)) || ((s.names.n : Int) != (t.names.n : Int)))) = true := by rw [hc]; rfl
            refine does_on rfl (by kernel_rfl) eg fun K Q' hK => ?_
            clear eg
            replace e94 := e94.trans (congrArg some (if_t hWi))
            have hf : Hid ((.slice s.links.a s.links.n s.links.c : Value) = (if (!(((((((((((((!(O.id.toList == Q.id.toList)) || (O.typ != Q.typ)) || (O.alg != Q.alg)) || (O.len != Q.len)) || (O.mask != Q.mask)) || (!(m1.toList == m2.toList))) || (O.st != Q.st)) || (!dq)) || (O.reason != Q.reason)) || (!(O.msg.toList == Q.msg.toList))) || (!lq)) || (O.arch != Q.arch)) || ((s.names.n : Int) != (t.names.n : Int)))) = true then .slice s.links.a s.links.n s.links.c else undef)) := (if_t hWi).symm
            clear hWi hc
            have hc0 := cell_of_block (j := 30) ((hg.block _ (block_lt S.out.one)).trans S.out.one) (oc30 O s)
            go_simp; exact hK _ _ (Grow.refl _) hf.out
        · intro w1 hg Ar seen
          have e95 := seen.de 95 103
          have eg := seen.de 93 101
          by_cases hc0 : ((((((((((((((!(O.id.toList == Q.id.toList)) || (O.typ != Q.typ)) || (O.alg != Q.alg)) || (O.len != Q.len)) || (O.mask != Q.mask)) || (!(m1.toList == m2.toList))) || (O.st != Q.st)) || (!dq)) || (O.reason != Q.reason)) || (!(O.msg.toList == Q.msg.toList))) || (!lq)) || (O.arch != Q.arch)) || ((s.names.n : Int) != (t.names.n : Int))) : Bool) = true
          · have hc := hc0
            clear hc0
            rw [hc] at eg
            have hWi : (!(((((((((((((!(O.id.toList == Q.id.toList)) || (O.typ != Q.typ)) || (O.alg != Q.alg)) || (O.len != Q.len)) || (O.mask != Q.mask)) || (!(m1.toList == m2.toList))) || (O.st != Q.st)) || (!dq)) || (O.reason != Q.reason)) || (!(O.msg.toList == Q.msg.toList))) || (!lq)) || (O.arch != Q.arch)) || ((s.names.n : Int) != (t.names.n : Int)))) = false := by rw [hc]; rfl
            exact does_off rfl (by kernel_rfl) eg ne_tf (Grow.refl _) (show undef = _ from (if_f hWi).symm)
          · have hc : ((((((((((((((!(O.id.toList == Q.id.toList)) || (O.typ != Q.typ)) || (O.alg != Q.alg)) || (O.len != Q.len)) || (O.mask != Q.mask)) || (!(m1.toList == m2.toList))) || (O.st != Q.st)) || (!dq)) || (O.reason != Q.reason)) || (!(O.msg.toList == Q.msg.toList))) || (!lq)) || (O.arch != Q.arch)) || ((s.names.n : Int) != (t.names.n : Int))) : Bool) = false := by rw [← Bool.not_eq_true]; exact hc0
            clear hc0
            rw [hc] at eg
            have hWi : (!(((((((((((((!(O.id.toList == Q.id.toList)) || (O.typ != Q.typ)) || (O.alg != Q.alg)) || (O.len != Q.len)) || (O.mask != Q.mask)) || (!(m1.toList == m2.toList))) || (O.st != Q.st)) || (!dq)) || (O.reason != Q.reason)) || (!(O.msg.toList == Q.msg.toList))) || (!lq)) || (O.arch != Q.arch)) || ((s.names.n : Int) != (t.names.n : Int)))) = true := by rw [hc]; rfl
            refine does_on rfl (by kernel_rfl) eg fun K Q' hK => ?_
            clear eg
            replace e95 := e95.trans (congrArg some (if_t hWi))
            have hf : Hid ((.int .i64 (s.links.n : Int) : Value) = (if (!(((((((((((((!(O.id.toList == Q.id.toList)) || (O.typ != Q.typ)) || (O.alg != Q.alg)) || (O.len != Q.len)) || (O.mask != Q.mask)) || (!(m1.toList == m2.toList))) || (O.st != Q.st)) || (!dq)) || (O.reason != Q.reason)) || (!(O.msg.toList == Q.msg.toList))) || (!lq)) || (O.arch != Q.arch)) || ((s.names.n : Int) != (t.names.n : Int)))) = true then .int .i64 (s.links.n : Int) else undef)) := (if_t hWi).symm
            clear hWi hc
            go_simp; exact hK _ _ (Grow.refl _) hf.out
        · intro w1 hg Ar seen
          have s3 := seen.sl 3 (.pointer (some ⟨b + 1, 0, none⟩))
          have eg := seen.de 93 101
          by_cases hc0 : ((((((((((((((!(O.id.toList == Q.id.toList)) || (O.typ != Q.typ)) || (O.alg != Q.alg)) || (O.len != Q.len)) || (O.mask != Q.mask)) || (!(m1.toList == m2.toList))) || (O.st != Q.st)) || (!dq)) || (O.reason != Q.reason)) || (!(O.msg.toList == Q.msg.toList))) || (!lq)) || (O.arch != Q.arch)) || ((s.names.n : Int) != (t.names.n : Int))) : Bool) = true
          · have hc := hc0
            clear hc0
            rw [hc] at eg
            have hWi : (!(((((((((((((!(O.id.toList == Q.id.toList)) || (O.typ != Q.typ)) || (O.alg != Q.alg)) || (O.len != Q.len)) || (O.mask != Q.mask)) || (!(m1.toList == m2.toList))) || (O.st != Q.st)) || (!dq)) || (O.reason != Q.reason)) || (!(O.msg.toList == Q.msg.toList))) || (!lq)) || (O.arch != Q.arch)) || ((s.names.n : Int) != (t.names.n : Int)))) = false := by rw [hc]; rfl
            exact does_off rfl (by kernel_rfl) eg ne_tf (Grow.refl _) (show undef = _ from (if_f hWi).symm)
          · have hc : ((((((((((((((!(O.id.toList == Q.id.toList)) || (O.typ != Q.typ)) || (O.alg != Q.alg)) || (O.len != Q.len)) || (O.mask != Q.mask)) || (!(m1.toList == m2.toList))) || (O.st != Q.st)) || (!dq)) || (O.reason != Q.reason)) || (!(O.msg.toList == Q.msg.toList))) || (!lq)) || (O.arch != Q.arch)) || ((s.names.n : Int) != (t.names.n : Int))) : Bool) = false := by rw [← Bool.not_eq_true]; exact hc0
            clear hc0
            rw [hc] at eg
            have hWi : (!(((((((((((((!(O.id.toList == Q.id.toList)) || (O.typ != Q.typ)) || (O.alg != Q.alg)) || (O.len != Q.len)) || (O.mask != Q.mask)) || (!(m1.toList == m2.toList))) || (O.st != Q.st)) || (!dq)) || (O.reason != Q.reason)) || (!(O.msg.toList == Q.msg.toList))) || (!lq)) || (O.arch != Q.arch)) || ((s.names.n : Int) != (t.names.n : Int)))) = true := by rw [hc]; rfl
            refine does_on rfl (by kernel_rfl) eg fun K Q' hK => ?_
            clear eg
            have hf : Hid ((.pointer (some ⟨b + 1, 30, none⟩) : Value) = (if (!(((((((((((((!(O.id.toList == Q.id.toList)) || (O.typ != Q.typ)) || (O.alg != Q.alg)) || (O.len != Q.len)) || (O.mask != Q.mask)) || (!(m1.toList == m2.toList))) || (O.st != Q.st)) || (!dq)) || (O.reason != Q.reason)) || (!(O.msg.toList == Q.msg.toList))) || (!lq)) || (O.arch != Q.arch)) || ((s.names.n : Int) != (t.names.n : Int)))) = true then .pointer (some ⟨b + 1, 30, none⟩) else undef)) := (if_t hWi).symm
            clear hWi hc
            go_simp; exact hK _ _ (Grow.refl _) hf.out
        · intro w1 hg Ar seen
          have e97 := seen.de 97 105
          have eg := seen.de 93 101
          by_cases hc0 : ((((((((((((((!(O.id.toList == Q.id.toList)) || (O.typ != Q.typ)) || (O.alg != Q.alg)) || (O.len != Q.len)) || (O.mask != Q.mask)) || (!(m1.toList == m2.toList))) || (O.st != Q.st)) || (!dq)) || (O.reason != Q.reason)) || (!(O.msg.toList == Q.msg.toList))) || (!lq)) || (O.arch != Q.arch)) || ((s.names.n : Int) != (t.names.n : Int))) : Bool) = true
          · have hc := hc0
            clear hc0
            rw [hc] at eg
            have hWi : (!(((((((((((((!(O.id.toList == Q.id.toList)) || (O.typ != Q.typ)) || (O.alg != Q.alg)) || (O.len != Q.len)) || (O.mask != Q.mask)) || (!(m1.toList == m2.toList))) || (O.st != Q.st)) || (!dq)) || (O.reason != Q.reason)) || (!(O.msg.toList == Q.msg.toList))) || (!lq)) || (O.arch != Q.arch)) || ((s.names.n : Int) != (t.names.n : Int)))) = false := by rw [hc]; rfl
            exact does_off rfl (by kernel_rfl) eg ne_tf (Grow.refl _) (show undef = _ from (if_f hWi).symm)
          · have hc : ((((((((((((((!(O.id.toList == Q.id.toList)) || (O.typ != Q.typ)) || (O.alg != Q.alg)) || (O.len != Q.len)) || (O.mask != Q.mask)) || (!(m1.toList == m2.toList))) || (O.st != Q.st)) || (!dq)) || (O.reason != Q.reason)) || (!(O.msg.toList == Q.msg.toList))) || (!lq)) || (O.arch != Q.arch)) || ((s.names.n : Int) != (t.names.n : Int))) : Bool) = false := by rw [← Bool.not_eq_true]; exact hc0
            clear hc0
            rw [hc] at eg
            have hWi : (!(((((((((((((!(O.id.toList == Q.id.toList)) || (O.typ != Q.typ)) || (O.alg != Q.alg)) || (O.len != Q.len)) || (O.mask != Q.mask)) || (!(m1.toList == m2.toList))) || (O.st != Q.st)) || (!dq)) || (O.reason != Q.reason)) || (!(O.msg.toList == Q.msg.toList))) || (!lq)) || (O.arch != Q.arch)) || ((s.names.n : Int) != (t.names.n : Int)))) = true := by rw [hc]; rfl
            refine does_on rfl (by kernel_rfl) eg fun K Q' hK => ?_
            clear eg
            replace e97 := e97.trans (congrArg some (if_t hWi))
            have hf : Hid ((.slice t.links.a t.links.n t.links.c : Value) = (if (!(((((((((((((!(O.id.toList == Q.id.toList)) || (O.typ != Q.typ)) || (O.alg != Q.alg)) || (O.len != Q.len)) || (O.mask != Q.mask)) || (!(m1.toList == m2.toList))) || (O.st != Q.st)) || (!dq)) || (O.reason != Q.reason)) || (!(O.msg.toList == Q.msg.toList))) || (!lq)) || (O.arch != Q.arch)) || ((s.names.n : Int) != (t.names.n : Int)))) = true then .slice t.links.a t.links.n t.links.c else undef)) := (if_t hWi).symm
            clear hWi hc
            have hc0 := cell_of_block (j := 30) ((hg.block _ (block_lt S.out.two)).trans S.out.two) (oc30 Q t)
            go_simp; exact hK _ _ (Grow.refl _) hf.out
        · intro w1 hg Ar seen
          have e98 := seen.de 98 106
          have eg := seen.de 93 101
          by_cases hc0 : ((((((((((((((!(O.id.toList == Q.id.toList)) || (O.typ != Q.typ)) || (O.alg != Q.alg)) || (O.len != Q.len)) || (O.mask != Q.mask)) || (!(m1.toList == m2.toList))) || (O.st != Q.st)) || (!dq)) || (O.reason != Q.reason)) || (!(O.msg.toList == Q.msg.toList))) || (!lq)) || (O.arch != Q.arch)) || ((s.names.n : Int) != (t.names.n : Int))) : Bool) = true
          · have hc := hc0
            clear hc0
            rw [hc] at eg
            have hWi : (!(((((((((((((!(O.id.toList == Q.id.toList)) || (O.typ != Q.typ)) || (O.alg != Q.alg)) || (O.len != Q.len)) || (O.mask != Q.mask)) || (!(m1.toList == m2.toList))) || (O.st != Q.st)) || (!dq)) || (O.reason != Q.reason)) || (!(O.msg.toList == Q.msg.toList))) || (!lq)) || (O.arch != Q.arch)) || ((s.names.n : Int) != (t.names.n : Int)))) = false := by rw [hc]; rfl
            exact does_off rfl (by kernel_rfl) eg ne_tf (Grow.refl _) (show undef = _ from (if_f hWi).symm)
          · have hc : ((((((((((((((!(O.id.toList == Q.id.toList)) || (O.typ != Q.typ)) || (O.alg != Q.alg)) || (O.len != Q.len)) || (O.mask != Q.mask)) || (!(m1.toList == m2.toList))) || (O.st != Q.st)) || (!dq)) || (O.reason != Q.reason)) || (!(O.msg.toList == Q.msg.toList))) || (!lq)) || (O.arch != Q.arch)) || ((s.names.n : Int) != (t.names.n : Int))) : Bool) = false := by rw [← Bool.not_eq_true]; exact hc0
            clear hc0
            rw [hc] at eg
            have hWi : (!(((((((((((((!(O.id.toList == Q.id.toList)) || (O.typ != Q.typ)) || (O.alg != Q.alg)) || (O.len != Q.len)) || (O.mask != Q.mask)) || (!(m1.toList == m2.toList))) || (O.st != Q.st)) || (!dq)) || (O.reason != Q.reason)) || (!(O.msg.toList == Q.msg.toList))) || (!lq)) || (O.arch != Q.arch)) || ((s.names.n : Int) != (t.names.n : Int)))) = true := by rw [hc]; rfl
            refine does_on rfl (by kernel_rfl) eg fun K Q' hK => ?_
            clear eg
            replace e98 := e98.trans (congrArg some (if_t hWi))
            have hf : Hid ((.int .i64 (t.links.n : Int) : Value) = (if (!(((((((((((((!(O.id.toList == Q.id.toList)) || (O.typ != Q.typ)) || (O.alg != Q.alg)) || (O.len != Q.len)) || (O.mask != Q.mask)) || (!(m1.toList == m2.toList))) || (O.st != Q.st)) || (!dq)) || (O.reason != Q.reason)) || (!(O.msg.toList == Q.msg.toList))) || (!lq)) || (O.arch != Q.arch)) || ((s.names.n : Int) != (t.names.n : Int)))) = true then .int .i64 (t.links.n : Int) else undef)) := (if_t hWi).symm
            clear hWi hc
            go_simp; exact hK _ _ (Grow.refl _) hf.out
        · intro w1 hg Ar seen
          have e96 := seen.de 96 104
          have e99 := seen.de 99 107
          have eg := seen.de 93 101
          by_cases hc0 : ((((((((((((((!(O.id.toList == Q.id.toList)) || (O.typ != Q.typ)) || (O.alg != Q.alg)) || (O.len != Q.len)) || (O.mask != Q.mask)) || (!(m1.toList == m2.toList))) || (O.st != Q.st)) || (!dq)) || (O.reason != Q.reason)) || (!(O.msg.toList == Q.msg.toList))) || (!lq)) || (O.arch != Q.arch)) || ((s.names.n : Int) != (t.names.n : Int))) : Bool) = true
          · have hc := hc0
            clear hc0
            rw [hc] at eg
            have hWi : (!(((((((((((((!(O.id.toList == Q.id.toList)) || (O.typ != Q.typ)) || (O.alg != Q.alg)) || (O.len != Q.len)) || (O.mask != Q.mask)) || (!(m1.toList == m2.toList))) || (O.st != Q.st)) || (!dq)) || (O.reason != Q.reason)) || (!(O.msg.toList == Q.msg.toList))) || (!lq)) || (O.arch != Q.arch)) || ((s.names.n : Int) != (t.names.n : Int)))) = false := by rw [hc]; rfl
            exact does_off rfl (by kernel_rfl) eg ne_tf (Grow.refl _) (show undef = _ from (if_f hWi).symm)
          · have hc : ((((((((((((((!(O.id.toList == Q.id.toList)) || (O.typ != Q.typ)) || (O.alg != Q.alg)) || (O.len != Q.len)) || (O.mask != Q.mask)) || (!(m1.toList == m2.toList))) || (O.st != Q.st)) || (!dq)) || (O.reason != Q.reason)) || (!(O.msg.toList == Q.msg.toList))) || (!lq)) || (O.arch != Q.arch)) || ((s.names.n : Int) != (t.names.n : Int))) : Bool) = false := by rw [← Bool.not_eq_true]; exact hc0
            clear hc0
            rw [hc] at eg
            have hWi : (!(((((((((((((!(O.id.toList == Q.id.toList)) || (O.typ != Q.typ)) || (O.alg != Q.alg)) || (O.len != Q.len)) || (O.mask != Q.mask)) || (!(m1.toList == m2.toList))) || (O.st != Q.st)) || (!dq)) || (O.reason != Q.reason)) || (!(O.msg.toList == Q.msg.toList))) || (!lq)) || (O.arch != Q.arch)) || ((s.names.n : Int) != (t.names.n : Int)))) = true := by rw [hc]; rfl
            refine does_on rfl (by kernel_rfl) eg fun K Q' hK => ?_
            clear eg
            replace e96 := e96.trans (congrArg some (if_t hWi))
            replace e99 := e99.trans (congrArg some (if_t hWi))
            have hf : Hid ((.bool ((s.links.n : Int) != (t.links.n : Int)) : Value) = (if (!(((((((((((((!(O.id.toList == Q.id.toList)) || (O.typ != Q.typ)) || (O.alg != Q.alg)) || (O.len != Q.len)) || (O.mask != Q.mask)) || (!(m1.toList == m2.toList))) || (O.st != Q.st)) || (!dq)) || (O.reason != Q.reason)) || (!(O.msg.toList == Q.msg.toList))) || (!lq)) || (O.arch != Q.arch)) || ((s.names.n : Int) != (t.names.n : Int)))) = true then .bool ((s.links.n : Int) != (t.links.n : Int)) else undef)) := (if_t hWi).symm
            clear hWi hc
            go_simp; exact hK _ _ (Grow.refl _) hf.out
        · intro w1 hg Ar seen
          have e93 := seen.de 93 101
          have e100 := seen.de 100 108
          refine does_plain rfl fun K Q' hK => ?_
          by_cases hp0 : ((((((((((((((!(O.id.toList == Q.id.toList)) || (O.typ != Q.typ)) || (O.alg != Q.alg)) || (O.len != Q.len)) || (O.mask != Q.mask)) || (!(m1.toList == m2.toList))) || (O.st != Q.st)) || (!dq)) || (O.reason != Q.reason)) || (!(O.msg.toList == Q.msg.toList))) || (!lq)) || (O.arch != Q.arch)) || ((s.names.n : Int) != (t.names.n : Int))) : Bool) = true
          · have hp := hp0
            clear hp0
            rw [hp] at e93
            clear e100
            have hv := hid (by show (Value.bool true) = .bool ((((((((((((((!(O.id.toList == Q.id.toList)) || (O.typ != Q.typ)) || (O.alg != Q.alg)) || (O.len != Q.len)) || (O.mask != Q.mask)) || (!(m1.toList == m2.toList))) || (O.st != Q.st)) || (!dq)) || (O.reason != Q.reason)) || (!(O.msg.toList == Q.msg.toList))) || (!lq)) || (O.arch != Q.arch)) || ((s.names.n : Int) != (t.names.n : Int))) || ((s.links.n : Int) != (t.links.n : Int))); rw [hp]; rfl)
            clear hp
            go_simp; exact hK _ _ (Grow.refl _) hv.out
          · have hp : ((((((((((((((!(O.id.toList == Q.id.toList)) || (O.typ != Q.typ)) || (O.alg != Q.alg)) || (O.len != Q.len)) || (O.mask != Q.mask)) || (!(m1.toList == m2.toList))) || (O.st != Q.st)) || (!dq)) || (O.reason != Q.reason)) || (!(O.msg.toList == Q.msg.toList))) || (!lq)) || (O.arch != Q.arch)) || ((s.names.n : Int) != (t.names.n : Int))) : Bool) = false := by rw [← Bool.not_eq_true]; exact hp0
            clear hp0
            rw [hp] at e93
            replace e100 := e100.trans (congrArg some (if_t (by rw [hp]; rfl)))
            have hv := hid (by show (Value.bool ((s.links.n : Int) != (t.links.n : Int))) = .bool ((((((((((((((!(O.id.toList == Q.id.toList)) || (O.typ != Q.typ)) || (O.alg != Q.alg)) || (O.len != Q.len)) || (O.mask != Q.mask)) || (!(m1.toList == m2.toList))) || (O.st != Q.st)) || (!dq)) || (O.reason != Q.reason)) || (!(O.msg.toList == Q.msg.toList))) || (!lq)) || (O.arch != Q.arch)) || ((s.names.n : Int) != (t.names.n : Int))) || ((s.links.n : Int) != (t.links.n : Int))); rw [hp]; rfl)
            clear hp
            go_simp; exact hK _ _ (Grow.refl _) hv.out
        · intro w1 hg Ar seen
          have e101 := seen.de 101 109
          refine does_plain rfl fun K Q' hK => ?_
          go_simp; exact hK _ _ (Grow.refl _) rfl
        · intro w1 hg Ar seen
          have s2 := seen.sl 2 (.pointer (some ⟨b, 0, none⟩))
          have eg := seen.de 102 110
          by_cases hc0 : (((((((((((((((!(O.id.toList == Q.id.toList)) || (O.typ != Q.typ)) || (O.alg != Q.alg)) || (O.len != Q.len)) || (O.mask != Q.mask)) || (!(m1.toList == m2.toList))) || (O.st != Q.st)) || (!dq)) || (O.reason != Q.reason)) || (!(O.msg.toList == Q.msg.toList))) || (!lq)) || (O.arch != Q.arch)) || ((s.names.n : Int) != (t.names.n : Int))) || ((s.links.n : Int) != (t.links.n : Int))) : Bool) = true
          · have hc := hc0
            clear hc0
            rw [hc] at eg
            have hWi : (!((((((((((((((!(O.id.toList == Q.id.toList)) || (O.typ != Q.typ)) || (O.alg != Q.alg)) || (O.len != Q.len)) || (O.mask != Q.mask)) || (!(m1.toList == m2.toList))) || (O.st != Q.st)) || (!dq)) || (O.reason != Q.reason)) || (!(O.msg.toList == Q.msg.toList))) || (!lq)) || (O.arch != Q.arch)) || ((s.names.n : Int) != (t.names.n : Int))) || ((s.links.n : Int) != (t.links.n : Int)))) = false := by rw [hc]; rfl
            exact does_off rfl (by kernel_rfl) eg ne_tf (Grow.refl _) (show undef = _ from (if_f hWi).symm)
          · have hc : (((((((((((((((!(O.id.toList == Q.id.toList)) || (O.typ != Q.typ)) || (O.alg != Q.alg)) || (O.len != Q.len)) || (O.mask != Q.mask)) || (!(m1.toList == m2.toList))) || (O.st != Q.st)) || (!dq)) || (O.reason != Q.reason)) || (!(O.msg.toList == Q.msg.toList))) || (!lq)) || (O.arch != Q.arch)) || ((s.names.n : Int) != (t.names.n : Int))) || ((s.links.n : Int) != (t.links.n : Int))) : Bool) = false := by rw [← Bool.not_eq_true]; exact hc0
            clear hc0
            rw [hc] at eg
            have hWi : (!((((((((((((((!(O.id.toList == Q.id.toList)) || (O.typ != Q.typ)) || (O.alg != Q.alg)) || (O.len != Q.len)) || (O.mask != Q.mask)) || (!(m1.toList == m2.toList))) || (O.st != Q.st)) || (!dq)) || (O.reason != Q.reason)) || (!(O.msg.toList == Q.msg.toList))) || (!lq)) || (O.arch != Q.arch)) || ((s.names.n : Int) != (t.names.n : Int))) || ((s.links.n : Int) != (t.links.n : Int)))) = true := by rw [hc]; rfl
            refine does_on rfl (by kernel_rfl) eg fun K Q' hK => ?_
            clear eg
            have hf : Hid ((.pointer (some ⟨b, 31, none⟩) : Value) = (if (!((((((((((((((!(O.id.toList == Q.id.toList)) || (O.typ != Q.typ)) || (O.alg != Q.alg)) || (O.len != Q.len)) || (O.mask != Q.mask)) || (!(m1.toList == m2.toList))) || (O.st != Q.st)) || (!dq)) || (O.reason != Q.reason)) || (!(O.msg.toList == Q.msg.toList))) || (!lq)) || (O.arch != Q.arch)) || ((s.names.n : Int) != (t.names.n : Int))) || ((s.links.n : Int) != (t.links.n : Int)))) = true then .pointer (some ⟨b, 31, none⟩) else undef)) := (if_t hWi).symm
            clear hWi hc
            go_simp; exact hK _ _ (Grow.refl _) hf.out
        · intro w1 hg Ar seen
          have e103 := seen.de 103 111
          have eg := seen.de 102 110
          by_cases hc0 : (((((((((((((((!(O.id.toList == Q.id.toList)) || (O.typ != Q.typ)) || (O.alg != Q.alg)) || (O.len != Q.len)) || (O.mask != Q.mask)) || (!(m1.toList == m2.toList))) || (O.st != Q.st)) || (!dq)) || (O.reason != Q.reason)) || (!(O.msg.toList == Q.msg.toList))) || (!lq)) || (O.arch != Q.arch)) || ((s.names.n : Int) != (t.names.n : Int))) || ((s.links.n : Int) != (t.links.n : Int))) : Bool) = true
          · have hc := hc0
            clear hc0
            rw [hc] at eg
            have hWi : (!((((((((((((((!(O.id.toList == Q.id.toList)) || (O.typ != Q.typ)) || (O.alg != Q.alg)) || (O.len != Q.len)) || (O.mask != Q.mask)) || (!(m1.toList == m2.toList))) || (O.st != Q.st)) || (!dq)) || (O.reason != Q.reason)) || (!(O.msg.toList == Q.msg.toList))) || (!lq)) || (O.arch != Q.arch)) || ((s.names.n : Int) != (t.names.n : Int))) || ((s.links.n : Int) != (t.links.n : Int)))) = false := by rw [hc]; rfl
            exact does_off rfl (by kernel_rfl) eg ne_tf (Grow.refl _) (show undef = _ from (if_f hWi).symm)
          · have hc : (((((((((((((((!(O.id.toList == Q.id.toList)) || (O.typ != Q.typ)) || (O.alg != Q.alg)) || (O.len != Q.len)) || (O.mask != Q.mask)) || (!(m1.toList == m2.toList))) || (O.st != Q.st)) || (!dq)) || (O.reason != Q.reason)) || (!(O.msg.toList == Q.msg.toList))) || (!lq)) || (O.arch != Q.arch)) || ((s.names.n : Int) != (t.names.n : Int))) || ((s.links.n : Int) != (t.links.n : Int))) : Bool) = false := by rw [← Bool.not_eq_true]; exact hc0
            clear hc0
            rw [hc] at eg
            have hWi : (!((((((((((((((!(O.id.toList == Q.id.toList)) || (O.typ != Q.typ)) || (O.alg != Q.alg)) || (O.len != Q.len)) || (O.mask != Q.mask)) || (!(m1.toList == m2.toList))) || (O.st != Q.st)) || (!dq)) || (O.reason != Q.reason)) || (!(O.msg.toList == Q.msg.toList))) || (!lq)) || (O.arch != Q.arch)) || ((s.names.n : Int) != (t.names.n : Int))) || ((s.links.n : Int) != (t.links.n : Int)))) = true := by rw [hc]; rfl
            refine does_on rfl (by kernel_rfl) eg fun K Q' hK => ?_
            clear eg
            replace e103 := e103.trans (congrArg some (if_t hWi))
            have hf : Hid ((.slice s.custom.a s.custom.n s.custom.c : Value) = (if (!((((((((((((((!(O.id.toList == Q.id.toList)) || (O.typ != Q.typ)) || (O.alg != Q.alg)) || (O.len != Q.len)) || (O.mask != Q.mask)) || (!(m1.toList == m2.toList))) || (O.st != Q.st)) || (!dq)) || (O.reason != Q.reason)) || (!(O.msg.toList == Q.msg.toList))) || (!lq)) || (O.arch != Q.arch)) || ((s.names.n : Int) != (t.names.n : Int))) || ((s.links.n : Int) != (t.links.n : Int)))) = true then .slice s.custom.a s.custom.n s.custom.c else undef)) := (if_t hWi).symm
            clear hWi hc
            have hc0 := cell_of_block (j := 31) ((hg.block _ (block_lt S.out.one)).trans S.out.one) (oc31 O s)
            go_simp; exact hK _ _ (Grow.refl _) hf.out
        · intro w1 hg Ar seen
          have e104 := seen.de 104 112
          have eg := seen.de 102 110
          by_cases hc0 : (((((((((((((((!(O.id.toList == Q.id.toList)) || (O.typ != Q.typ)) || (O.alg != Q.alg)) || (O.len != Q.len)) || (O.mask != Q.mask)) || (!(m1.toList == m2.toList))) || (O.st != Q.st)) || (!dq)) || (O.reason != Q.reason)) || (!(O.msg.toList == Q.msg.toList))) || (!lq)) || (O.arch != Q.arch)) || ((s.names.n : Int) != (t.names.n : Int))) || ((s.links.n : Int) != (t.links.n : Int))) : Bool) = true
          · have hc := hc0
            clear hc0
            rw [hc] at eg
            have hWi : (!((((((((((((((!(O.id.toList == Q.id.toList)) || (O.typ != Q.typ)) || (O.alg != Q.alg)) || (O.len != Q.len)) || (O.mask != Q.mask)) || (!(m1.toList == m2.toList))) || (O.st != Q.st)) || (!dq)) || (O.reason != Q.reason)) || (!(O.msg.toList == Q.msg.toList))) || (!lq)) || (O.arch != Q.arch)) || ((s.names.n : Int) != (t.names.n : Int))) || ((s.links.n : Int) != (t.links.n : Int)))) = false := by rw [hc]; rfl
            exact does_off rfl (by kernel_rfl) eg ne_tf (Grow.refl _) (show undef = _ from (if_f hWi).symm)
          · have hc : (((((((((((((((!(O.id.toList == Q.id.toList)) || (O.typ != Q.typ)) || (O.alg != Q.alg)) || (O.len != Q.len)) || (O.mask != Q.mask)) || (!(m1.toList == m2.toList))) || (O.st != Q.st)) || (!dq)) || (O.reason != Q.reason)) || (!(O.msg.toList == Q.msg.toList))) || (!lq)) || (O.arch != Q.arch)) || ((s.names.n : Int) != (t.names.n : Int))) || ((s.links.n : Int) != (t.links.n : Int))) : Bool) = false := by rw [← Bool.not_eq_true]; exact hc0
            clear hc0
            rw [hc] at eg
            have hWi : (!((((((((((((((!(O.id.toList == Q.id.toList)) || (O.typ != Q.typ)) || (O.alg != Q.alg)) || (O.len != Q.len)) || (O.mask != Q.mask)) || (!(m1.toList == m2.toList))) || (O.st != Q.st)) || (!dq)) || (O.reason != Q.reason)) || (!(O.msg.toList == Q.msg.toList))) || (!lq)) || (O.arch != Q.arch)) || ((s.names.n : Int) != (t.names.n : Int))) || ((s.links.n : Int) != (t.links.n : Int)))) = true := by rw [hc]; rfl
            refine does_on rfl (by kernel_rfl) eg fun K Q' hK => ?_
            clear eg
            replace e104 := e104.trans (congrArg some (if_t hWi))
            have hf : Hid ((.int .i64 (s.custom.n : Int) : Value) = (if (!((((((((((((((!(O.id.toList == Q.id.toList)) || (O.typ != Q.typ)) || (O.alg != Q.alg)) || (O.len != Q.len)) || (O.mask != Q.mask)) || (!(m1.toList == m2.toList))) || (O.st != Q.st)) || (!dq)) || (O.reason != Q.reason)) || (!(O.msg.toList == Q.msg.toList))) || (!lq)) || (O.arch != Q.arch)) || ((s.names.n : Int) != (t.names.n : Int))) || ((s.links.n : Int) != (t.links.n : Int)))) = true then .int .i64 (s.custom.n : Int) else undef)) := (if_t hWi).symm
            clear hWi hc
            go_simp; exact hK _ _ (Grow.refl _) hf.out
        · intro w1 hg Ar seen
          have s3 := seen.sl 3 (.pointer (some ⟨b + 1, 0, none⟩))
          have eg := seen.de 102 110
          by_cases hc0 : (((((((((((((((!(O.id.toList == Q.id.toList)) || (O.typ != Q.typ)) || (O.alg != Q.alg)) || (O.len != Q.len)) || (O.mask != Q.mask)) || (!(m1.toList == m2.toList))) || (O.st != Q.st)) || (!dq)) || (O.reason != Q.reason)) || (!(O.msg.toList == Q.msg.toList))) || (!lq)) || (O.arch != Q.arch)) || ((s.names.n : Int) != (t.names.n : Int))) || ((s.links.n : Int) != (t.links.n : Int))) : Bool) = true
          · have hc := hc0
            clear hc0
            rw [hc] at eg
            have hWi : (!((((((((((((((!(O.id.toList == Q.id.toList)) || (O.typ != Q.typ)) || (O.alg != Q.alg)) || (O.len != Q.len)) || (O.mask != Q.mask)) || (!(m1.toList == m2.toList))) || (O.st != Q.st)) || (!dq)) || (O.reason != Q.reason)) || (!(O.msg.toList == Q.msg.toList))) || (!lq)) || (O.arch != Q.arch)) || ((s.names.n : Int) != (t.names.n : Int))) || ((s.links.n : Int) != (t.links.n : Int)))) = false := by rw [hc]; rfl
            exact does_off rfl (by kernel_rfl) eg ne_tf (Grow.refl _) (show undef = _ from (if_f hWi).symm)
          · have hc : (((((((((((((((!(O.id.toList == Q.id.toList)) || (O.typ != Q.typ)) || (O.alg != Q.alg)) || (O.len != Q.len)) || (O.mask != Q.mask)) || (!(m1.toList == m2.toList))) || (O.st != Q.st)) || (!dq)) || (O.reason != Q.reason)) || (!(O.msg.toList == Q.msg.toList))) || (!lq)) || (O.arch != Q.arch)) || ((s.names.n : Int) != (t.names.n : Int))) || ((s.links.n : Int) != (t.links.n : Int))) : Bool) = false := by rw [← Bool.not_eq_true]; exact hc0
            clear hc0
            rw [hc] at eg
            have hWi : (!((((((((((((((!(O.id.toList == Q.id.toList)) || (O.typ != Q.typ)) || (O.alg != Q.alg)) || (O.len != Q.len)) || (O.mask != Q.mask)) || (!(m1.toList == m2.toList))) || (O.st != Q.st)) || (!dq)) || (O.reason != Q.reason)) || (!(O.msg.toList == Q.msg.toList))) || (!lq)) || (O.arch != Q.arch)) || ((s.names.n : Int) != (t.names.n : Int))) || ((s.links.n : Int) != (t.links.n : Int)))) = true := by rw [hc]; rfl
            refine does_on rfl (by kernel_rfl) eg fun K Q' hK => ?_
            clear eg
            have hf : Hid ((.pointer (some ⟨b + 1, 31, none⟩) : Value) = (if (!((((((((((((((!(O.id.toList == Q.id.toList)) || (O.typ != Q.typ)) || (O.alg != Q.alg)) || (O.len != Q.len)) || (O.mask != Q.mask)) || (!(m1.toList == m2.toList))) || (O.st != Q.st)) || (!dq)) || (O.reason != Q.reason)) || (!(O.msg.toList == Q.msg.toList))) || (!lq)) || (O.arch != Q.arch)) || ((s.names.n : Int) != (t.names.n : Int))) || ((s.links.n : Int) != (t.links.n : Int)))) = true then .pointer (some ⟨b + 1, 31, none⟩) else undef)) := (if_t hWi).symm
            clear hWi hc
            go_simp; exact hK _ _ (Grow.refl _) hf.out
        · intro w1 hg Ar seen
          have e106 := seen.de 106 114
          have eg := seen.de 102 110
          by_cases hc0 : (((((((((((((((!(O.id.toList == Q.id.toList)) || (O.typ != Q.typ)) || (O.alg != Q.alg)) || (O.len != Q.len)) || (O.mask != Q.mask)) || (!(m1.toList == m2.toList))) || (O.st != Q.st)) || (!dq)) || (O.reason != Q.reason)) || (!(O.msg.toList == Q.msg.toList))) || (!lq)) || (O.arch != Q.arch)) || ((s.names.n : Int) != (t.names.n : Int))) || ((s.links.n : Int) != (t.links.n : Int))) : Bool) = true
          · have hc := hc0
            clear hc0
            rw [hc] at eg
            have hWi : (!((((((((((((((!(O.id.toList == Q.id.toList)) || (O.typ != Q.typ)) || (O.alg != Q.alg)) || (O.len != Q.len)) || (O.mask != Q.mask)) || (!(m1.toList == m2.toList))) || (O.st != Q.st)) || (!dq)) || (O.reason != Q.reason)) || (!(O.msg.toList == Q.msg.toList))) || (!lq)) || (O.arch != Q.arch)) || ((s.names.n : Int) != (t.names.n : Int))) || ((s.links.n : Int) != (t.links.n : Int)))) = false := by rw [hc]; rfl
            exact does_off rfl (by kernel_rfl) eg ne_tf (Grow.refl _) (show undef = _ from (if_f hWi).symm)
          · have hc : (((((((((((((((!(O.id.toList == Q.id.toList)) || (O.typ != Q.typ)) || (O.alg != Q.alg)) || (O.len != Q.len)) || (O.mask != Q.mask)) || (!(m1.toList == m2.toList))) || (O.st != Q.st)) || (!dq)) || (O.reason != Q.reason)) || (!(O.msg.toList == Q.msg.toList))) || (!lq)) || (O.arch != Q.arch)) || ((s.names.n : Int) != (t.names.n : Int))) || ((s.links.n : Int) != (t.links.n : Int))) : Bool) = false := by rw [← Bool.not_eq_true]; exact hc0
            clear hc0
            rw [hc] at eg
            have hWi : (!((((((((((((((!(O.id.toList == Q.id.toList)) || (O.typ != Q.typ)) || (O.alg != Q.alg)) || (O.len != Q.len)) || (O.mask != Q.mask)) || (!(m1.toList == m2.toList))) || (O.st != Q.st)) || (!dq)) || (O.reason != Q.reason)) || (!(O.msg.toList == Q.msg.toList))) || (!lq)) || (O.arch != Q.arch)) || ((s.names.n : Int) != (t.names.n : Int))) || ((s.links.n : Int) != (t.links.n : Int)))) = true := by rw [hc]; rfl
            refine does_on rfl (by kernel_rfl) eg fun K Q' hK => ?_
            clear eg
            replace e106 := e106.trans (congrArg some (if_t hWi))
            have hf : Hid ((.slice t.custom.a t.custom.n t.custom.c : Value) = (if (!((((((((((((((!(O.id.toList == Q.id.toList)) || (O.typ != Q.typ)) || (O.alg != Q.alg)) || (O.len != Q.len)) || (O.mask != Q.mask)) || (!(m1.toList == m2.toList))) || (O.st != Q.st)) || (!dq)) || (O.reason != Q.reason)) || (!(O.msg.toList == Q.msg.toList))) || (!lq)) || (O.arch != Q.arch)) || ((s.names.n : Int) != (t.names.n : Int))) || ((s.links.n : Int) != (t.links.n : Int)))) = true then .slice t.custom.a t.custom.n t.custom.c else undef)) := (if_t hWi).symm
            clear hWi hc
            have hc0 := cell_of_block (j := 31) ((hg.block _ (block_lt S.out.two)).trans S.out.two) (oc31 Q t)
            go_simp; exact hK _ _ (Grow.refl _) hf.out
        · intro w1 hg Ar seen
          have e107 := seen.de 107 115
          have eg := seen.de 102 110
          by_cases hc0 : (((((((((((((((!(O.id.toList == Q.id.toList)) || (O.typ != Q.typ)) || (O.alg != Q.alg)) || (O.len != Q.len)) || (O.mask != Q.mask)) || (!(m1.toList == m2.toList))) || (O.st != Q.st)) || (!dq)) || (O.reason != Q.reason)) || (!(O.msg.toList == Q.msg.toList))) || (!lq)) || (O.arch != Q.arch)) || ((s.names.n : Int) != (t.names.n : Int))) || ((s.links.n : Int) != (t.links.n : Int))) : Bool) = true
          · have hc := hc0
            clear hc0
            rw [hc] at eg
            have hWi : (!((((((((((((((!(O.id.toList == Q.id.toList)) || (O.typ != Q.typ)) || (O.alg != Q.alg)) || (O.len != Q.len)) || (O.mask != Q.mask)) || (!(m1.toList == m2.toList))) || (O.st != Q.st)) || (!dq)) || (O.reason != Q.reason)) || (!(O.msg.toList == Q.msg.toList))) || (!lq)) || (O.arch != Q.arch)) || ((s.names.n : Int) != (t.names.n : Int))) || ((s.links.n : Int) != (t.links.n : Int)))) = false := by rw [hc]; rfl
            exact does_off rfl (by kernel_rfl) eg ne_tf (Grow.refl _) (show undef = _ from (if_f hWi).symm)
          · have hc : (((((((((((((((!(O.id.toList == Q.id.toList)) || (O.typ != Q.typ)) || (O.alg != Q.alg)) || (O.len != Q.len)) || (O.mask != Q.mask)) || (!(m1.toList == m2.toList))) || (O.st != Q.st)) || (!dq)) || (O.reason != Q.reason)) || (!(O.msg.toList == Q.msg.toList))) || (!lq)) || (O.arch != Q.arch)) || ((s.names.n : Int) != (t.names.n : Int))) || ((s.links.n : Int) != (t.links.n : Int))) : Bool) = false := by rw [← Bool.not_eq_true]; exact hc0
            clear hc0
            rw [hc] at eg
            have hWi : (!((((((((((((((!(O.id.toList == Q.id.toList)) || (O.typ != Q.typ)) || (O.alg != Q.alg)) || (O.len != Q.len)) || (O.mask != Q.mask)) || (!(m1.toList == m2.toList))) || (O.st != Q.st)) || (!dq)) || (O.reason != Q.reason)) || (!(O.msg.toList == Q.msg.toList))) || (!lq)) || (O.arch != Q.arch)) || ((s.names.n : Int) != (t.names.n : Int))) || ((s.links.n : Int) != (t.links.n : Int)))) = true := by rw [hc]; rfl
            refine does_on rfl (by kernel_rfl) eg fun K Q' hK => ?_
            clear eg
            replace e107 := e107.trans (congrArg some (if_t hWi))
            have hf : Hid ((.int .i64 (t.custom.n : Int) : Value) = (if (!((((((((((((((!(O.id.toList == Q.id.toList)) || (O.typ != Q.typ)) || (O.alg != Q.alg)) || (O.len != Q.len)) || (O.mask != Q.mask)) || (!(m1.toList == m2.toList))) || (O.st != Q.st)) || (!dq)) || (O.reason != Q.reason)) || (!(O.msg.toList == Q.msg.toList))) || (!lq)) || (O.arch != Q.arch)) || ((s.names.n : Int) != (t.names.n : Int))) || ((s.links.n : Int) != (t.links.n : Int)))) = true then .int .i64 (t.custom.n : Int) else undef)) := (if_t hWi).symm
            clear hWi hc
            go_simp; exact hK _ _ (Grow.refl _) hf.out
        · intro w1 hg Ar seen
          have e105 := seen.de 105 113
          have e108 := seen.de 108 116
          have eg := seen.de 102 110
          by_cases hc0 : (((((((((((((((!(O.id.toList == Q.id.toList)) || (O.typ != Q.typ)) || (O.alg != Q.alg)) || (O.len != Q.len)) || (O.mask != Q.mask)) || (!(m1.toList == m2.toList))) || (O.st != Q.st)) || (!dq)) || (O.reason != Q.reason)) || (!(O.msg.toList == Q.msg.toList))) || (!lq)) || (O.arch != Q.arch)) || ((s.names.n : Int) != (t.names.n : Int))) || ((s.links.n : Int) != (t.links.n : Int))) : Bool) = true
          · have hc := hc0
            clear hc0
            rw [hc] at eg
            have hWi : (!((((((((((((((!(O.id.toList == Q.id.toList)) || (O.typ != Q.typ)) || (O.alg != Q.alg)) || (O.len != Q.len)) || (O.mask != Q.mask)) || (!(m1.toList == m2.toList))) || (O.st != Q.st)) || (!dq)) || (O.reason != Q.reason)) || (!(O.msg.toList == Q.msg.toList))) || (!lq)) || (O.arch != Q.arch)) || ((s.names.n : Int) != (t.names.n : Int))) || ((s.links.n : Int) != (t.links.n : Int)))) = false := by rw [hc]; rfl
            exact does_off rfl (by kernel_rfl) eg ne_tf (Grow.refl _) (show undef = _ from (if_f hWi).symm)
          · have hc : (((((((((((((((!(O.id.toList == Q.id.toList)) || (O.typ != Q.typ)) || (O.alg != Q.alg)) || (O.len != Q.len)) || (O.mask != Q.mask)) || (!(m1.toList == m2.toList))) || (O.st != Q.st)) || (!dq)) || (O.reason != Q.reason)) || (!(O.msg.toList == Q.msg.toList))) || (!lq)) || (O.arch != Q.arch)) || ((s.names.n : Int) != (t.names.n : Int))) || ((s.links.n : Int) != (t.links.n : Int))) : Bool) = false := by rw [← Bool.not_eq_true]; exact hc0
            clear hc0
            rw [hc] at eg
            have hWi : (!((((((((((((((!(O.id.toList == Q.id.toList)) || (O.typ != Q.typ)) || (O.alg != Q.alg)) || (O.len != Q.len)) || (O.mask != Q.mask)) || (!(m1.toList == m2.toList))) || (O.st != Q.st)) || (!dq)) || (O.reason != Q.reason)) || (!(O.msg.toList == Q.msg.toList))) || (!lq)) || (O.arch != Q.arch)) || ((s.names.n : Int) != (t.names.n : Int))) || ((s.links.n : Int) != (t.links.n : Int)))) = true := by rw [hc]; rfl
            refine does_on rfl (by kernel_rfl) eg fun K Q' hK => ?_
            clear eg
            replace e105 := e105.trans (congrArg some (if_t hWi))
            replace e108 := e108.trans (congrArg some (if_t hWi))
            have hf : Hid ((.bool ((s.custom.n : Int) != (t.custom.n : Int)) : Value) = (if (!((((((((((((((!(O.id.toList == Q.id.toList)) || (O.typ != Q.typ)) || (O.alg != Q.alg)) || (O.len != Q.len)) || (O.mask != Q.mask)) || (!(m1.toList == m2.toList))) || (O.st != Q.st)) || (!dq)) || (O.reason != Q.reason)) || (!(O.msg.toList == Q.msg.toList))) || (!lq)) || (O.arch != Q.arch)) || ((s.names.n : Int) != (t.names.n : Int))) || ((s.links.n : Int) != (t.links.n : Int)))) = true then .bool ((s.custom.n : Int) != (t.custom.n : Int)) else undef)) := (if_t hWi).symm
            clear hWi hc
            go_simp; exact hK _ _ (Grow.refl _) hf.out
        · intro w1 hg Ar seen
          have e102 := seen.de 102 110
          have e109 := seen.de 109 117
          refine does_plain rfl fun K Q' hK => ?_
          by_cases hp0 : (((((((((((((((!(O.id.toList == Q.id.toList)) || (O.typ != Q.typ)) || (O.alg != Q.alg)) || (O.len != Q.len)) || (O.mask != Q.mask)) || (!(m1.toList == m2.toList))) || (O.st != Q.st)) || (!dq)) || (O.reason != Q.reason)) || (!(O.msg.toList == Q.msg.toList))) || (!lq)) || (O.arch != Q.arch)) || ((s.names.n : Int) != (t.names.n : Int))) || ((s.links.n : Int) != (t.links.n : Int))) : Bool) = true
          · have hp := hp0
            clear hp0
            rw [hp] at e102
            clear e109
            have hv := hid (by show (Value.bool true) = .bool (((((((((((((((!(O.id.toList == Q.id.toList)) || (O.typ != Q.typ)) || (O.alg != Q.alg)) || (O.len != Q.len)) || (O.mask != Q.mask)) || (!(m1.toList == m2.toList))) || (O.st != Q.st)) || (!dq)) || (O.reason != Q.reason)) || (!(O.msg.toList == Q.msg.toList))) || (!lq)) || (O.arch != Q.arch)) || ((s.names.n : Int) != (t.names.n : Int))) || ((s.links.n : Int) != (t.links.n : Int))) || ((s.custom.n : Int) != (t.custom.n : Int))); rw [hp]; rfl)
            clear hp
            go_simp; exact hK _ _ (Grow.refl _) hv.out
          · have hp : (((((((((((((((!(O.id.toList == Q.id.toList)) || (O.typ != Q.typ)) || (O.alg != Q.alg)) || (O.len != Q.len)) || (O.mask != Q.mask)) || (!(m1.toList == m2.toList))) || (O.st != Q.st)) || (!dq)) || (O.reason != Q.reason)) || (!(O.msg.toList == Q.msg.toList))) || (!lq)) || (O.arch != Q.arch)) || ((s.names.n : Int) != (t.names.n : Int))) || ((s.links.n : Int) != (t.links.n : Int))) : Bool) = false := by rw [← Bool.not_eq_true]; exact hp0
            clear hp0
            rw [hp] at e102
            replace e109 := e109.trans (congrArg some (if_t (by rw [hp]; rfl)))
            have hv := hid (by show (Value.bool ((s.custom.n : Int) != (t.custom.n : Int))) = .bool (((((((((((((((!(O.id.toList == Q.id.toList)) || (O.typ != Q.typ)) || (O.alg != Q.alg)) || (O.len != Q.len)) || (O.mask != Q.mask)) || (!(m1.toList == m2.toList))) || (O.st != Q.st)) || (!dq)) || (O.reason != Q.reason)) || (!(O.msg.toList == Q.msg.toList))) || (!lq)) || (O.arch != Q.arch)) || ((s.names.n : Int) != (t.names.n : Int))) || ((s.links.n : Int) != (t.links.n : Int))) || ((s.custom.n : Int) != (t.custom.n : Int))); rw [hp]; rfl)
            clear hp
            go_simp; exact hK _ _ (Grow.refl _) hv.out
    intro w1 hg
    refine upon_w' (js := [0, 1, 2, 3, 4, 5, 6, 7, 8, 9, 10, 11, 12, 13, 14, 15, 16, 17, 18, 19, 20, 21, 22, 23, 24, 25, 26, 27, 28, 29, 30, 31, 32, 33, 34, 35, 36, 37, 38, 39, 40, 41, 42, 43, 44, 45, 46, 47, 48, 49, 50, 51, 52, 53, 54, 55, 56, 57, 58, 59, 60, 61, 62, 63, 64, 65, 66, 67, 68, 69, 70, 71, 72, 73, 74, 75, 76, 77, 78, 79, 80, 81, 82, 83, 84, 85, 86, 87, 88, 89, 90, 91, 92, 93, 94, 95, 96, 97, 98, 99, 100, 101, 102, 103, 104, 105, 106, 107, 108, 109, 110]) (by rfl) ?_
    refine upon_x (some 8) fun v8 => upon_x (some 9) fun v9 => upon_x (some 10) fun v10 => upon_x (some 11) fun v11 => upon_x (some 12) fun v12 => upon_x (some 13) fun v13 => upon_x (some 14) fun v14 => upon_x (some 15) fun v15 => upon_x (some 16) fun v16 => upon_x (some 17) fun v17 => upon_x (some 18) fun v18 => upon_x (some 19) fun v19 => upon_x (some 20) fun v20 => upon_x (some 21) fun v21 => upon_x (some 22) fun v22 => upon_x (some 23) fun v23 => upon_x (some 24) fun v24 => upon_x (some 25) fun v25 => upon_x (some 26) fun v26 => upon_x (some 27) fun v27 => upon_x (some 28) fun v28 => upon_x (some 29) fun v29 => upon_x (some 30) fun v30 => upon_x (some 31) fun v31 => upon_x (some 32) fun v32 => upon_x (some 33) fun v33 => upon_x (some 34) fun v34 => upon_x (some 35) fun v35 => upon_x (some 36) fun v36 => upon_x (some 37) fun v37 => upon_x (some 38) fun v38 => upon_x (some 39) fun v39 => upon_x (some 40) fun v40 => upon_x (some 41) fun v41 => upon_x (some 42) fun v42 => upon_x (some 43) fun v43 => upon_x (some 44) fun v44 => upon_x (some 45) fun v45 => upon_x (some 46) fun v46 => upon_x (some 47) fun v47 => upon_x (some 48) fun v48 => upon_x (some 49) fun v49 => upon_x (some 50) fun v50 => upon_x (some 51) fun v51 => upon_x (some 52) fun v52 => upon_x (some 53) fun v53 => upon_x (some 54) fun v54 => upon_x (some 55) fun v55 => upon_x (some 56) fun v56 => upon_x (some 57) fun v57 => upon_x (some 58) fun v58 => upon_x (some 59) fun v59 => upon_x (some 60) fun v60 => upon_x (some 61) fun v61 => upon_x (some 62) fun v62 => upon_x (some 63) fun v63 => upon_x (some 64) fun v64 => upon_x (some 65) fun v65 => upon_x (some 66) fun v66 => upon_x (some 67) fun v67 => upon_x (some 68) fun v68 => upon_x (some 69) fun v69 => upon_x (some 70) fun v70 => upon_x (some 71) fun v71 => upon_x (some 72) fun v72 => upon_x (some 73) fun v73 => upon_x (some 74) fun v74 => upon_x (some 75) fun v75 => upon_x (some 76) fun v76 => upon_x (some 77) fun v77 => upon_x (some 78) fun v78 => upon_x (some 79) fun v79 => upon_x (some 80) fun v80 => upon_x (some 81) fun v81 => upon_x (some 82) fun v82 => upon_x (some 83) fun v83 => upon_x (some 84) fun v84 => upon_x (some 85) fun v85 => upon_x (some 86) fun v86 => upon_x (some 87) fun v87 => upon_x (some 88) fun v88 => upon_x (some 89) fun v89 => upon_x (some 90) fun v90 => upon_x (some 91) fun v91 => upon_x (some 92) fun v92 => upon_x (some 93) fun v93 => upon_x (some 94) fun v94 => upon_x (some 95) fun v95 => upon_x (some 96) fun v96 => upon_x (some 97) fun v97 => upon_x (some 98) fun v98 => upon_x (some 99) fun v99 => upon_x (some 100) fun v100 => upon_x (some 101) fun v101 => upon_x (some 102) fun v102 => upon_x (some 103) fun v103 => upon_x (some 104) fun v104 => upon_x (some 105) fun v105 => upon_x (some 106) fun v106 => upon_x (some 107) fun v107 => upon_x (some 108) fun v108 => upon_x (some 109) fun v109 => upon_x (some 110) fun v110 => upon_x (some 111) fun v111 => upon_x (some 112) fun v112 => upon_x (some 113) fun v113 => upon_x (some 114) fun v114 => upon_x (some 115) fun v115 => upon_x (some 116) fun v116 => upon_x (some 117) fun v117 => upon_e (some 118) (upon_n ?_)
    go_simp
    have S' := S.out.below hg
    refine wpList_nil (HK1 _ _ (Met.intro (HJ1 _ _ ?_)))
    (repeat apply Exists.intro)
    refine ⟨?_, rfl⟩
    exact ⟨_, rfl, fun h => sameB_not (by have := HOR.out; rw [show orS O Q s t m1 m2 dq lq = true from h] at this; exact (Bool.not_eq_true' _).mp this.symm), fun h => by have := HOR.out; rw [show orS O Q s t m1 m2 dq lq = false from h] at this; exact (Bool.not_eq_false' _).mp this.symm, S'⟩
  case rest =>
    obtain ⟨v, rfl, h1, h0, hs⟩ := hcut
    clear S
    have S := hid hs
    cases v with
    | true =>
      have HS := hid (h1 rfl)
      clear h1 h0 hs
      go_wp2_with fail
      go_ret
      exact ⟨by rw [HS.out]; rfl, by have := S.out.bel; exact this⟩
    | false =>
      have h := h0 rfl
      rw [Bool.and_eq_true] at h
      have HP := hid h.1
      have h2 := h.2
      simp only [Bool.and_eq_true, decide_eq_true_eq] at h2
      have NS : Hid (s.names.n = t.names.n) := by have := NSO.out; have := NSQ.out; show _ = _; omega
      have NL : Hid (s.links.n = t.links.n) := by have := NLO.out; have := NLQ.out; show _ = _; omega
      have NC : Hid (s.custom.n = t.custom.n) := by have := NCO.out; have := NCQ.out; show _ = _; omega
      clear h1 h0 hs h h2
      go_upto_block 0 with (fail)
      go_cut [5] (fun _ wx => Two 35 O Q s t w wx b ∧ O.names = Q.names)
      case first =>
        go_wp2_with fail
        go_loopw [5] (fun z wr => ∃ k : Nat, k ≤ s.names.n ∧ z = .int .i64 k ∧ Two 35 O Q s t w wr b ∧ O.names.take k = Q.names.take k) (fun z _ => s.names.n - (intOf z).toNat)
        case atStart => exact ⟨0, Nat.zero_le _, rfl, S.out, by simp⟩
        case round =>
          obtain ⟨k, hk, rfl, hs, htk⟩ := hrel
          clear S
          have S := hid hs; have HTK := hid htk
          clear hs htk
          have hsm : s.names.n ≤ 140737488355328 := S.out.m1.names.sm
          have ca := cell_of_block S.out.one (oc29 O s)
          have cb := cell_of_block S.out.two (oc29 Q t)
          by_cases hlt : k < s.names.n
          · obtain ⟨ba, oa, x, ha, hx, hc1⟩ := S.out.m1.names.one hlt
            obtain ⟨bb, ob, y, hb', hy, hd1⟩ := S.out.m2.names.one (NS.out ▸ hlt)
            rw [ha] at ca
            rw [hb', ← NS.out] at cb
            have CA := hid ca; have CB := hid cb; have C1 := hid hc1; have D1 := hid hd1
            have HX := hid hx; have HY := hid hy
            clear ca cb hc1 hd1 ha hb' hx hy
            have ca' := CA.out
            go_upto_region 6 with (fail)
            clear ca'
            by_cases hxy : x = y
            · subst hxy
              have HT2 := hid (take_eq HTK.out HX.out HY.out rfl)
              refine wp_region_each 11 [.eq (.pointer (some ⟨b, 29, none⟩)), .eq (.slice (some ⟨ba, oa, none⟩) s.names.n s.names.c), .eq (.int .i64 (k : Int)), .eq (.pointer (some ⟨ba, oa + k, none⟩)), .eq (.string x), .eq (.pointer (some ⟨b + 1, 29, none⟩)), .eq (.slice (some ⟨bb, ob, none⟩) s.names.n t.names.c), .eq (.int .i64 (k : Int)), .eq (.pointer (some ⟨bb, ob + k, none⟩)), .eq (.string x), .eq (.bool false)] (by kernel_rfl) (by kernel_rfl) (by kernel_rfl) (by kernel_rfl) ?_ ?_
              · all_goals
                  refine each_5 ?_ ?_ ?_ ?_ ?_ (each_5 ?_ ?_ ?_ ?_ ?_ (each_c ?_ (each_n)))
                  · intro w1 hg Ar seen
                    have s2 := seen.sl 2 (.pointer (some ⟨b, 0, none⟩))
                    refine does_plain rfl fun K Q' hK => ?_
                    go_simp; exact hK _ _ (Grow.refl _) rfl
                  · intro w1 hg Ar seen
                    have e0 := seen.de 0 126
                    refine does_plain rfl fun K Q' hK => ?_
                    have hc := cell_later hg CA.out
                    go_simp; exact hK _ _ (Grow.refl _) rfl
                  · intro w1 hg Ar seen
                    have s5 := seen.sl 5 (.int .i64 (k : Int))
                    refine does_plain rfl fun K Q' hK => ?_
                    go_simp; exact hK _ _ (Grow.refl _) rfl
                  · intro w1 hg Ar seen
                    have e1 := seen.de 1 127
                    have e2 := seen.de 2 128
                    refine does_plain rfl fun K Q' hK => ?_
                    go_simp; exact hK _ _ (Grow.refl _) rfl
                  · intro w1 hg Ar seen
                    have e3 := seen.de 3 129
                    refine does_plain rfl fun K Q' hK => ?_
                    have hc := cell_later hg C1.out
                    go_simp; exact hK _ _ (Grow.refl _) rfl
                  · intro w1 hg Ar seen
                    have s3 := seen.sl 3 (.pointer (some ⟨b + 1, 0, none⟩))
                    refine does_plain rfl fun K Q' hK => ?_
                    go_simp; exact hK _ _ (Grow.refl _) rfl
                  · intro w1 hg Ar seen
                    have e5 := seen.de 5 131
                    refine does_plain rfl fun K Q' hK => ?_
                    have hc := cell_later hg CB.out
                    go_simp; exact hK _ _ (Grow.refl _) rfl
                  · intro w1 hg Ar seen
                    have s5 := seen.sl 5 (.int .i64 (k : Int))
                    refine does_plain rfl fun K Q' hK => ?_
                    go_simp; exact hK _ _ (Grow.refl _) rfl
                  · intro w1 hg Ar seen
                    have e6 := seen.de 6 132
                    have e7 := seen.de 7 133
                    refine does_plain rfl fun K Q' hK => ?_
                    go_simp; exact hK _ _ (Grow.refl _) rfl
                  · intro w1 hg Ar seen
                    have e8 := seen.de 8 134
                    refine does_plain rfl fun K Q' hK => ?_
                    have hc := cell_later hg D1.out
                    go_simp; exact hK _ _ (Grow.refl _) rfl
                  · intro w1 hg Ar seen
                    have e4 := seen.de 4 130
                    have e9 := seen.de 9 135
                    refine does_plain rfl fun K Q' hK => ?_
                    go_simp; exact hK _ _ (Grow.refl _) rfl
              intro w1 hg
              refine upon_w' (js := [0, 1, 2, 3, 4, 5, 6, 7, 8, 9, 10]) (by rfl) ?_
              refine upon_e (some 126) (upon_e (some 127) (upon_e (some 128) (upon_e (some 129) (upon_e (some 130) (upon_e (some 131) (upon_e (some 132) (upon_e (some 133) (upon_e (some 134) (upon_e (some 135) (upon_e (some 136) (upon_n ?_)))))))))))
              go_simp
              have S' := hid (S.out.below hg)
              clear hg S
              have S := S'
              clear S'
              go_wp2_with fail
              go_roundw
              case rel => first | exact ⟨k + 1, by omega, by go_num, S.out, HT2.out⟩ | ((repeat apply Exists.intro); exact ⟨⟨k + 1, by omega, by go_num, S.out, HT2.out⟩, rfl⟩)
              case measure => simp [intOf]; omega
            · have HS : Hid (sameB O Q = false) := by
                show _ = _
                rw [sameB_part HP.out]
                have := get_ne HX.out HY.out hxy
                simp [this]
              have HNE := hid (show (x.toList == y.toList) = false from bytes_ne hxy)
              clear hxy
              refine wp_region_each 11 [.eq (.pointer (some ⟨b, 29, none⟩)), .eq (.slice (some ⟨ba, oa, none⟩) s.names.n s.names.c), .eq (.int .i64 (k : Int)), .eq (.pointer (some ⟨ba, oa + k, none⟩)), .eq (.string x), .eq (.pointer (some ⟨b + 1, 29, none⟩)), .eq (.slice (some ⟨bb, ob, none⟩) s.names.n t.names.c), .eq (.int .i64 (k : Int)), .eq (.pointer (some ⟨bb, ob + k, none⟩)), .eq (.string y), .eq (.bool true)] (by kernel_rfl) (by kernel_rfl) (by kernel_rfl) (by kernel_rfl) ?_ ?_
              · all_goals
                  refine each_5 ?_ ?_ ?_ ?_ ?_ (each_5 ?_ ?_ ?_ ?_ ?_ (each_c ?_ (each_n)))
                  · intro w1 hg Ar seen
                    have s2 := seen.sl 2 (.pointer (some ⟨b, 0, none⟩))
                    refine does_plain rfl fun K Q' hK => ?_
                    go_simp; exact hK _ _ (Grow.refl _) rfl
                  · intro w1 hg Ar seen
                    have e0 := seen.de 0 126
                    refine does_plain rfl fun K Q' hK => ?_
                    have hc := cell_later hg CA.out
                    go_simp; exact hK _ _ (Grow.refl _) rfl
                  · intro w1 hg Ar seen
                    have s5 := seen.sl 5 (.int .i64 (k : Int))
                    refine does_plain rfl fun K Q' hK => ?_
                    go_simp; exact hK _ _ (Grow.refl _) rfl
                  · intro w1 hg Ar seen
                    have e1 := seen.de 1 127
                    have e2 := seen.de 2 128
                    refine does_plain rfl fun K Q' hK => ?_
                    go_simp; exact hK _ _ (Grow.refl _) rfl
                  · intro w1 hg Ar seen
                    have e3 := seen.de 3 129
                    refine does_plain rfl fun K Q' hK => ?_
                    have hc := cell_later hg C1.out
                    go_simp; exact hK _ _ (Grow.refl _) rfl
                  · intro w1 hg Ar seen
                    have s3 := seen.sl 3 (.pointer (some ⟨b + 1, 0, none⟩))
                    refine does_plain rfl fun K Q' hK => ?_
                    go_simp; exact hK _ _ (Grow.refl _) rfl
                  · intro w1 hg Ar seen
                    have e5 := seen.de 5 131
                    refine does_plain rfl fun K Q' hK => ?_
                    have hc := cell_later hg CB.out
                    go_simp; exact hK _ _ (Grow.refl _) rfl
                  · intro w1 hg Ar seen
                    have s5 := seen.sl 5 (.int .i64 (k : Int))
                    refine does_plain rfl fun K Q' hK => ?_
                    go_simp; exact hK _ _ (Grow.refl _) rfl
                  · intro w1 hg Ar seen
                    have e6 := seen.de 6 132
                    have e7 := seen.de 7 133
                    refine does_plain rfl fun K Q' hK => ?_
                    go_simp; exact hK _ _ (Grow.refl _) rfl
                  · intro w1 hg Ar seen
                    have e8 := seen.de 8 134
                    refine does_plain rfl fun K Q' hK => ?_
                    have hc := cell_later hg D1.out
                    go_simp; exact hK _ _ (Grow.refl _) rfl
                  · intro w1 hg Ar seen
                    have e4 := seen.de 4 130
                    have e9 := seen.de 9 135
                    refine does_plain rfl fun K Q' hK => ?_
                    have hq := HNE.out
                    go_simp; exact hK _ _ (Grow.refl _) rfl
              intro w1 hg
              refine upon_w' (js := [0, 1, 2, 3, 4, 5, 6, 7, 8, 9, 10]) (by rfl) ?_
              refine upon_e (some 126) (upon_e (some 127) (upon_e (some 128) (upon_e (some 129) (upon_e (some 130) (upon_e (some 131) (upon_e (some 132) (upon_e (some 133) (upon_e (some 134) (upon_e (some 135) (upon_e (some 136) (upon_n ?_)))))))))))
              go_simp
              have S' := hid (S.out.below hg)
              clear hg S
              have S := S'
              clear S'
              go_wp2_with fail
              go_ret
              exact ⟨by rw [HS.out]; rfl, by have := S.out.bel; exact this⟩
          · obtain rfl : k = s.names.n := by omega
            have HEQ : Hid (O.names = Q.names) := by
              have h := HTK.out
              rw [List.take_of_length_le (by have := NSO.out; omega), List.take_of_length_le (by have := NSQ.out; have := NS.out; omega)] at h
              exact h
            go_wp2_with fail
            go_meet
            exact ⟨S.out, HEQ.out⟩
      case rest =>
        obtain ⟨hs, heq⟩ := hcut
        clear S
        have S := hid hs; have EQS := hid heq
        clear hs heq
        go_upto_block 2 with (fail)
        go_cut [6] (fun _ wx => Two 35 O Q s t w wx b ∧ O.links = Q.links)
        case first =>
          go_wp2_with fail
          go_loopw [6] (fun z wr => ∃ k : Nat, k ≤ s.links.n ∧ z = .int .i64 k ∧ Two 35 O Q s t w wr b ∧ O.links.take k = Q.links.take k) (fun z _ => s.links.n - (intOf z).toNat)
          case atStart => exact ⟨0, Nat.zero_le _, rfl, S.out, by simp⟩
          case round =>
            obtain ⟨k, hk, rfl, hs, htk⟩ := hrel
            clear S
            have S := hid hs; have HTK := hid htk
            clear hs htk
            have hsm : s.links.n ≤ 140737488355328 := S.out.m1.links.sm
            have ca := cell_of_block S.out.one (oc30 O s)
            have cb := cell_of_block S.out.two (oc30 Q t)
            by_cases hlt : k < s.links.n
            · obtain ⟨ba, oa, x, ha, hx, hc1, hc2⟩ := S.out.m1.links.pair hlt
              obtain ⟨bb, ob, y, hb', hy, hd1, hd2⟩ := S.out.m2.links.pair (NL.out ▸ hlt)
              rw [ha] at ca
              rw [hb', ← NL.out] at cb
              have CA := hid ca; have CB := hid cb; have C1 := hid hc1; have D1 := hid hd1
              have C2 := hid hc2; have D2 := hid hd2
              have HX := hid hx; have HY := hid hy
              clear ca cb hc1 hd1 ha hb' hx hy hc2 hd2
              have ca' := CA.out
              go_upto_region 11 with (fail)
              clear ca'
              by_cases hxy : x = y
              · subst hxy
                have HT2 := hid (take_eq HTK.out HX.out HY.out rfl)
                refine wp_region_each 11 [.eq (.pointer (some ⟨b, 30, none⟩)), .eq (.slice (some ⟨ba, oa, none⟩) s.links.n s.links.c), .eq (.int .i64 (k : Int)), .eq (.pointer (some ⟨ba, oa + k * 2, none⟩)), .eq (.agg #[.int .i64 x.1, .string x.2]), .eq (.pointer (some ⟨b + 1, 30, none⟩)), .eq (.slice (some ⟨bb, ob, none⟩) s.links.n t.links.c), .eq (.int .i64 (k : Int)), .eq (.pointer (some ⟨bb, ob + k * 2, none⟩)), .eq (.agg #[.int .i64 x.1, .string x.2]), .eq (.bool false)] (by kernel_rfl) (by kernel_rfl) (by kernel_rfl) (by kernel_rfl) ?_ ?_
                · all_goals
                    refine each_5 ?_ ?_ ?_ ?_ ?_ (each_5 ?_ ?_ ?_ ?_ ?_ (each_c ?_ (each_n)))
                    · intro w1 hg Ar seen
                      have s2 := seen.sl 2 (.pointer (some ⟨b, 0, none⟩))
                      refine does_plain rfl fun K Q' hK => ?_
                      go_simp; exact hK _ _ (Grow.refl _) rfl
                    · intro w1 hg Ar seen
                      have e0 := seen.de 0 144
                      refine does_plain rfl fun K Q' hK => ?_
                      have hc := cell_later hg CA.out
                      go_simp; exact hK _ _ (Grow.refl _) rfl
                    · intro w1 hg Ar seen
                      have s6 := seen.sl 6 (.int .i64 (k : Int))
                      refine does_plain rfl fun K Q' hK => ?_
                      go_simp; exact hK _ _ (Grow.refl _) rfl
                    · intro w1 hg Ar seen
                      have e1 := seen.de 1 145
                      have e2 := seen.de 2 146
                      refine does_plain rfl fun K Q' hK => ?_
                      go_simp; exact hK _ _ (Grow.refl _) rfl
                    · intro w1 hg Ar seen
                      have e3 := seen.de 3 147
                      refine does_plain rfl fun K Q' hK => ?_
                      have hc := cell_later hg C1.out; have hc2 := cell_later hg C2.out
                      go_simp; exact hK _ _ (Grow.refl _) rfl
                    · intro w1 hg Ar seen
                      have s3 := seen.sl 3 (.pointer (some ⟨b + 1, 0, none⟩))
                      refine does_plain rfl fun K Q' hK => ?_
                      go_simp; exact hK _ _ (Grow.refl _) rfl
                    · intro w1 hg Ar seen
                      have e5 := seen.de 5 149
                      refine does_plain rfl fun K Q' hK => ?_
                      have hc := cell_later hg CB.out
                      go_simp; exact hK _ _ (Grow.refl _) rfl
                    · intro w1 hg Ar seen
                      have s6 := seen.sl 6 (.int .i64 (k : Int))
                      refine does_plain rfl fun K Q' hK => ?_
                      go_simp; exact hK _ _ (Grow.refl _) rfl
                    · intro w1 hg Ar seen
                      have e6 := seen.de 6 150
                      have e7 := seen.de 7 151
                      refine does_plain rfl fun K Q' hK => ?_
                      go_simp; exact hK _ _ (Grow.refl _) rfl
                    · intro w1 hg Ar seen
                      have e8 := seen.de 8 152
                      refine does_plain rfl fun K Q' hK => ?_
                      have hc := cell_later hg D1.out; have hc2 := cell_later hg D2.out
                      go_simp; exact hK _ _ (Grow.refl _) rfl
                    · intro w1 hg Ar seen
                      have e4 := seen.de 4 148
                      have e9 := seen.de 9 153
                      refine does_plain rfl fun K Q' hK => ?_
                      have he : ∀ w, (binOp .neq 56 (.agg #[.int .i64 x.1, .string x.2]) (.agg #[.int .i64 x.1, .string x.2])).run Tryd.prog w = .ok (.bool false) w := (fun w => by rw [eqNL]; simp)
                      go_simp; exact hK _ _ (Grow.refl _) rfl
                intro w1 hg
                refine upon_w' (js := [0, 1, 2, 3, 4, 5, 6, 7, 8, 9, 10]) (by rfl) ?_
                refine upon_e (some 144) (upon_e (some 145) (upon_e (some 146) (upon_e (some 147) (upon_e (some 148) (upon_e (some 149) (upon_e (some 150) (upon_e (some 151) (upon_e (some 152) (upon_e (some 153) (upon_e (some 154) (upon_n ?_)))))))))))
                go_simp
                have S' := hid (S.out.below hg)
                clear hg S
                have S := S'
                clear S'
                go_wp2_with fail
                go_roundw
                case rel => first | exact ⟨k + 1, by omega, by go_num, S.out, HT2.out⟩ | ((repeat apply Exists.intro); exact ⟨⟨k + 1, by omega, by go_num, S.out, HT2.out⟩, rfl⟩)
                case measure => simp [intOf]; omega
              · have HS : Hid (sameB O Q = false) := by
                  show _ = _
                  rw [sameB_part HP.out]
                  have := get_ne HX.out HY.out hxy
                  simp [this]
                have HNE := hid hxy
                clear hxy
                refine wp_region_each 11 [.eq (.pointer (some ⟨b, 30, none⟩)), .eq (.slice (some ⟨ba, oa, none⟩) s.links.n s.links.c), .eq (.int .i64 (k : Int)), .eq (.pointer (some ⟨ba, oa + k * 2, none⟩)), .eq (.agg #[.int .i64 x.1, .string x.2]), .eq (.pointer (some ⟨b + 1, 30, none⟩)), .eq (.slice (some ⟨bb, ob, none⟩) s.links.n t.links.c), .eq (.int .i64 (k : Int)), .eq (.pointer (some ⟨bb, ob + k * 2, none⟩)), .eq (.agg #[.int .i64 y.1, .string y.2]), .eq (.bool true)] (by kernel_rfl) (by kernel_rfl) (by kernel_rfl) (by kernel_rfl) ?_ ?_
                · all_goals
                    refine each_5 ?_ ?_ ?_ ?_ ?_ (each_5 ?_ ?_ ?_ ?_ ?_ (each_c ?_ (each_n)))
                    · intro w1 hg Ar seen
                      have s2 := seen.sl 2 (.pointer (some ⟨b, 0, none⟩))
                      refine does_plain rfl fun K Q' hK => ?_
                      go_simp; exact hK _ _ (Grow.refl _) rfl
                    · intro w1 hg Ar seen
                      have e0 := seen.de 0 144
                      refine does_plain rfl fun K Q' hK => ?_
                      have hc := cell_later hg CA.out
                      go_simp; exact hK _ _ (Grow.refl _) rfl
                    · intro w1 hg Ar seen
                      have s6 := seen.sl 6 (.int .i64 (k : Int))
                      refine does_plain rfl fun K Q' hK => ?_
                      go_simp; exact hK _ _ (Grow.refl _) rfl
                    · intro w1 hg Ar seen
                      have e1 := seen.de 1 145
                      have e2 := seen.de 2 146
                      refine does_plain rfl fun K Q' hK => ?_
                      go_simp; exact hK _ _ (Grow.refl _) rfl
                    · intro w1 hg Ar seen
                      have e3 := seen.de 3 147
                      refine does_plain rfl fun K Q' hK => ?_
                      have hc := cell_later hg C1.out; have hc2 := cell_later hg C2.out
                      go_simp; exact hK _ _ (Grow.refl _) rfl
                    · intro w1 hg Ar seen
                      have s3 := seen.sl 3 (.pointer (some ⟨b + 1, 0, none⟩))
                      refine does_plain rfl fun K Q' hK => ?_
                      go_simp; exact hK _ _ (Grow.refl _) rfl
                    · intro w1 hg Ar seen
                      have e5 := seen.de 5 149
                      refine does_plain rfl fun K Q' hK => ?_
                      have hc := cell_later hg CB.out
                      go_simp; exact hK _ _ (Grow.refl _) rfl
                    · intro w1 hg Ar seen
                      have s6 := seen.sl 6 (.int .i64 (k : Int))
                      refine does_plain rfl fun K Q' hK => ?_
                      go_simp; exact hK _ _ (Grow.refl _) rfl
                    · intro w1 hg Ar seen
                      have e6 := seen.de 6 150
                      have e7 := seen.de 7 151
                      refine does_plain rfl fun K Q' hK => ?_
                      go_simp; exact hK _ _ (Grow.refl _) rfl
                    · intro w1 hg Ar seen
                      have e8 := seen.de 8 152
                      refine does_plain rfl fun K Q' hK => ?_
                      have hc := cell_later hg D1.out; have hc2 := cell_later hg D2.out
                      go_simp; exact hK _ _ (Grow.refl _) rfl
                    · intro w1 hg Ar seen
                      have e4 := seen.de 4 148
                      have e9 := seen.de 9 153
                      refine does_plain rfl fun K Q' hK => ?_
                      have he : ∀ w, (binOp .neq 56 (.agg #[.int .i64 x.1, .string x.2]) (.agg #[.int .i64 y.1, .string y.2])).run Tryd.prog w = .ok (.bool true) w := (fun w => by rw [eqNL]; simp [HNE.out])
                      go_simp; exact hK _ _ (Grow.refl _) rfl
                intro w1 hg
                refine upon_w' (js := [0, 1, 2, 3, 4, 5, 6, 7, 8, 9, 10]) (by rfl) ?_
                refine upon_e (some 144) (upon_e (some 145) (upon_e (some 146) (upon_e (some 147) (upon_e (some 148) (upon_e (some 149) (upon_e (some 150) (upon_e (some 151) (upon_e (some 152) (upon_e (some 153) (upon_e (some 154) (upon_n ?_)))))))))))
                go_simp
                have S' := hid (S.out.below hg)
                clear hg S
                have S := S'
                clear S'
                go_wp2_with fail
                go_ret
                exact ⟨by rw [HS.out]; rfl, by have := S.out.bel; exact this⟩
            · obtain rfl : k = s.links.n := by omega
              have HEQ : Hid (O.links = Q.links) := by
                have h := HTK.out
                rw [List.take_of_length_le (by have := NLO.out; omega), List.take_of_length_le (by have := NLQ.out; have := NL.out; omega)] at h
                exact h
              go_wp2_with fail
              go_meet
              exact ⟨S.out, HEQ.out⟩
        case rest =>
          obtain ⟨hs, heq⟩ := hcut
          clear S
          have S := hid hs; have EQL := hid heq
          clear hs heq
          go_upto_block 4 with (fail)
          go_cut [7] (fun _ wx => Two 35 O Q s t w wx b ∧ O.custom = Q.custom)
          case first =>
            go_wp2_with fail
            go_loopw [7] (fun z wr => ∃ k : Nat, k ≤ s.custom.n ∧ z = .int .i64 k ∧ Two 35 O Q s t w wr b ∧ O.custom.take k = Q.custom.take k) (fun z _ => s.custom.n - (intOf z).toNat)
            case atStart => exact ⟨0, Nat.zero_le _, rfl, S.out, by simp⟩
            case round =>
              obtain ⟨k, hk, rfl, hs, htk⟩ := hrel
              clear S
              have S := hid hs; have HTK := hid htk
              clear hs htk
              have hsm : s.custom.n ≤ 140737488355328 := S.out.m1.custom.sm
              have ca := cell_of_block S.out.one (oc31 O s)
              have cb := cell_of_block S.out.two (oc31 Q t)
              by_cases hlt : k < s.custom.n
              · obtain ⟨ba, oa, x, ha, hx, hc1, hc2⟩ := S.out.m1.custom.pair hlt
                obtain ⟨bb, ob, y, hb', hy, hd1, hd2⟩ := S.out.m2.custom.pair (NC.out ▸ hlt)
                rw [ha] at ca
                rw [hb', ← NC.out] at cb
                have CA := hid ca; have CB := hid cb; have C1 := hid hc1; have D1 := hid hd1
                have C2 := hid hc2; have D2 := hid hd2
                have HX := hid hx; have HY := hid hy
                clear ca cb hc1 hd1 ha hb' hx hy hc2 hd2
                have ca' := CA.out
                go_upto_region 16 with (fail)
                clear ca'
                by_cases hxy : x = y
                · subst hxy
                  have HT2 := hid (take_eq HTK.out HX.out HY.out rfl)
                  refine wp_region_each 11 [.eq (.pointer (some ⟨b, 31, none⟩)), .eq (.slice (some ⟨ba, oa, none⟩) s.custom.n s.custom.c), .eq (.int .i64 (k : Int)), .eq (.pointer (some ⟨ba, oa + k * 2, none⟩)), .eq (.agg #[.string x.1, .string x.2]), .eq (.pointer (some ⟨b + 1, 31, none⟩)), .eq (.slice (some ⟨bb, ob, none⟩) s.custom.n t.custom.c), .eq (.int .i64 (k : Int)), .eq (.pointer (some ⟨bb, ob + k * 2, none⟩)), .eq (.agg #[.string x.1, .string x.2]), .eq (.bool false)] (by kernel_rfl) (by kernel_rfl) (by kernel_rfl) (by kernel_rfl) ?_ ?_
                  · all_goals
                      refine each_5 ?_ ?_ ?_ ?_ ?_ (each_5 ?_ ?_ ?_ ?_ ?_ (each_c ?_ (each_n)))
                      · intro w1 hg Ar seen
                        have s2 := seen.sl 2 (.pointer (some ⟨b, 0, none⟩))
                        refine does_plain rfl fun K Q' hK => ?_
                        go_simp; exact hK _ _ (Grow.refl _) rfl
                      · intro w1 hg Ar seen
                        have e0 := seen.de 0 162
                        refine does_plain rfl fun K Q' hK => ?_
                        have hc := cell_later hg CA.out
                        go_simp; exact hK _ _ (Grow.refl _) rfl
                      · intro w1 hg Ar seen
                        have s7 := seen.sl 7 (.int .i64 (k : Int))
                        refine does_plain rfl fun K Q' hK => ?_
                        go_simp; exact hK _ _ (Grow.refl _) rfl
                      · intro w1 hg Ar seen
                        have e1 := seen.de 1 163
                        have e2 := seen.de 2 164
                        refine does_plain rfl fun K Q' hK => ?_
                        go_simp; exact hK _ _ (Grow.refl _) rfl
                      · intro w1 hg Ar seen
                        have e3 := seen.de 3 165
                        refine does_plain rfl fun K Q' hK => ?_
                        have hc := cell_later hg C1.out; have hc2 := cell_later hg C2.out
                        go_simp; exact hK _ _ (Grow.refl _) rfl
                      · intro w1 hg Ar seen
                        have s3 := seen.sl 3 (.pointer (some ⟨b + 1, 0, none⟩))
                        refine does_plain rfl fun K Q' hK => ?_
                        go_simp; exact hK _ _ (Grow.refl _) rfl
                      · intro w1 hg Ar seen
                        have e5 := seen.de 5 167
                        refine does_plain rfl fun K Q' hK => ?_
                        have hc := cell_later hg CB.out
                        go_simp; exact hK _ _ (Grow.refl _) rfl
                      · intro w1 hg Ar seen
                        have s7 := seen.sl 7 (.int .i64 (k : Int))
                        refine does_plain rfl fun K Q' hK => ?_
                        go_simp; exact hK _ _ (Grow.refl _) rfl
                      · intro w1 hg Ar seen
                        have e6 := seen.de 6 168
                        have e7 := seen.de 7 169
                        refine does_plain rfl fun K Q' hK => ?_
                        go_simp; exact hK _ _ (Grow.refl _) rfl
                      · intro w1 hg Ar seen
                        have e8 := seen.de 8 170
                        refine does_plain rfl fun K Q' hK => ?_
                        have hc := cell_later hg D1.out; have hc2 := cell_later hg D2.out
                        go_simp; exact hK _ _ (Grow.refl _) rfl
                      · intro w1 hg Ar seen
                        have e4 := seen.de 4 166
                        have e9 := seen.de 9 171
                        refine does_plain rfl fun K Q' hK => ?_
                        have he : ∀ w, (binOp .neq 58 (.agg #[.string x.1, .string x.2]) (.agg #[.string x.1, .string x.2])).run Tryd.prog w = .ok (.bool false) w := (fun w => by rw [eqNC]; simp)
                        go_simp; exact hK _ _ (Grow.refl _) rfl
                  intro w1 hg
                  refine upon_w' (js := [0, 1, 2, 3, 4, 5, 6, 7, 8, 9, 10]) (by rfl) ?_
                  refine upon_e (some 162) (upon_e (some 163) (upon_e (some 164) (upon_e (some 165) (upon_e (some 166) (upon_e (some 167) (upon_e (some 168) (upon_e (some 169) (upon_e (some 170) (upon_e (some 171) (upon_e (some 172) (upon_n ?_)))))))))))
                  go_simp
                  have S' := hid (S.out.below hg)
                  clear hg S
                  have S := S'
                  clear S'
                  go_wp2_with fail
                  go_roundw
                  case rel => first | exact ⟨k + 1, by omega, by go_num, S.out, HT2.out⟩ | ((repeat apply Exists.intro); exact ⟨⟨k + 1, by omega, by go_num, S.out, HT2.out⟩, rfl⟩)
                  case measure => simp [intOf]; omega
                · have HS : Hid (sameB O Q = false) := by
                    show _ = _
                    rw [sameB_part HP.out]
                    have := get_ne HX.out HY.out hxy
                    simp [this]
                  have HNE := hid hxy
                  clear hxy
                  refine wp_region_each 11 [.eq (.pointer (some ⟨b, 31, none⟩)), .eq (.slice (some ⟨ba, oa, none⟩) s.custom.n s.custom.c), .eq (.int .i64 (k : Int)), .eq (.pointer (some ⟨ba, oa + k * 2, none⟩)), .eq (.agg #[.string x.1, .string x.2]), .eq (.pointer (some ⟨b + 1, 31, none⟩)), .eq (.slice (some ⟨bb, ob, none⟩) s.custom.n t.custom.c), .eq (.int .i64 (k : Int)), .eq (.pointer (some ⟨bb, ob + k * 2, none⟩)), .eq (.agg #[.string y.1, .string y.2]), .eq (.bool true)] (by kernel_rfl) (by kernel_rfl) (by kernel_rfl) (by kernel_rfl) ?_ ?_
                  · all_goals
                      refine each_5 ?_ ?_ ?_ ?_ ?_ (each_5 ?_ ?_ ?_ ?_ ?_ (each_c ?_ (each_n)))
                      · intro w1 hg Ar seen
                        have s2 := seen.sl 2 (.pointer (some ⟨b, 0, none⟩))
                        refine does_plain rfl fun K Q' hK => ?_
                        go_simp; exact hK _ _ (Grow.refl _) rfl
                      · intro w1 hg Ar seen
                        have e0 := seen.de 0 162
                        refine does_plain rfl fun K Q' hK => ?_
                        have hc := cell_later hg CA.out
                        go_simp; exact hK _ _ (Grow.refl _) rfl
                      · intro w1 hg Ar seen
                        have s7 := seen.sl 7 (.int .i64 (k : Int))
                        refine does_plain rfl fun K Q' hK => ?_
                        go_simp; exact hK _ _ (Grow.refl _) rfl
                      · intro w1 hg Ar seen
                        have e1 := seen.de 1 163
                        have e2 := seen.de 2 164
                        refine does_plain rfl fun K Q' hK => ?_
                        go_simp; exact hK _ _ (Grow.refl _) rfl
                      · intro w1 hg Ar seen
                        have e3 := seen.de 3 165
                        refine does_plain rfl fun K Q' hK => ?_
                        have hc := cell_later hg C1.out; have hc2 := cell_later hg C2.out
                        go_simp; exact hK _ _ (Grow.refl _) rfl
                      · intro w1 hg Ar seen
                        have s3 := seen.sl 3 (.pointer (some ⟨b + 1, 0, none⟩))
                        refine does_plain rfl fun K Q' hK => ?_
                        go_simp; exact hK _ _ (Grow.refl _) rfl
                      · intro w1 hg Ar seen
                        have e5 := seen.de 5 167
                        refine does_plain rfl fun K Q' hK => ?_
                        have hc := cell_later hg CB.out
                        go_simp; exact hK _ _ (Grow.refl _) rfl
                      · intro w1 hg Ar seen
                        have s7 := seen.sl 7 (.int .i64 (k : Int))
                        refine does_plain rfl fun K Q' hK => ?_
                        go_simp; exact hK _ _ (Grow.refl _) rfl
                      · intro w1 hg Ar seen
                        have e6 := seen.de 6 168
                        have e7 := seen.de 7 169
                        refine does_plain rfl fun K Q' hK => ?_
                        go_simp; exact hK _ _ (Grow.refl _) rfl
                      · intro w1 hg Ar seen
                        have e8 := seen.de 8 170
                        refine does_plain rfl fun K Q' hK => ?_
                        have hc := cell_later hg D1.out; have hc2 := cell_later hg D2.out
                        go_simp; exact hK _ _ (Grow.refl _) rfl
                      · intro w1 hg Ar seen
                        have e4 := seen.de 4 166
                        have e9 := seen.de 9 171
                        refine does_plain rfl fun K Q' hK => ?_
                        have he : ∀ w, (binOp .neq 58 (.agg #[.string x.1, .string x.2]) (.agg #[.string y.1, .string y.2])).run Tryd.prog w = .ok (.bool true) w := (fun w => by rw [eqNC]; simp [HNE.out])
                        go_simp; exact hK _ _ (Grow.refl _) rfl
                  intro w1 hg
                  refine upon_w' (js := [0, 1, 2, 3, 4, 5, 6, 7, 8, 9, 10]) (by rfl) ?_
                  refine upon_e (some 162) (upon_e (some 163) (upon_e (some 164) (upon_e (some 165) (upon_e (some 166) (upon_e (some 167) (upon_e (some 168) (upon_e (some 169) (upon_e (some 170) (upon_e (some 171) (upon_e (some 172) (upon_n ?_)))))))))))
                  go_simp
                  have S' := hid (S.out.below hg)
                  clear hg S
                  have S := S'
                  clear S'
                  go_wp2_with fail
                  go_ret
                  exact ⟨by rw [HS.out]; rfl, by have := S.out.bel; exact this⟩
              · obtain rfl : k = s.custom.n := by omega
                have HEQ : Hid (O.custom = Q.custom) := by
                  have h := HTK.out
                  rw [List.take_of_length_le (by have := NCO.out; omega), List.take_of_length_le (by have := NCQ.out; have := NC.out; omega)] at h
                  exact h
                go_wp2_with fail
                go_meet
                exact ⟨S.out, HEQ.out⟩
          case rest =>
            obtain ⟨hs, heq⟩ := hcut
            clear S
            have S := hid hs; have EQC := hid heq
            clear hs heq
            have HS : Hid (sameB O Q = true) := by
              show _ = _
              rw [sameB_part HP.out, EQS.out, EQL.out, EQC.out]
              simp
            go_wp2_with fail
            go_ret
            exact ⟨by rw [HS.out]; rfl, by have := S.out.bel; exact this⟩
end Go.Proofs.YtdlkobmlnpijgaaDoor
