/- The reference's Right. -/
import Derived.Test.YtdlkobmlnpijgaaDoorObjRead
import Derived.Test.YtdlkobmlnpijgaaDoorRegionP
import Derived.Deep.DeepCutAuto
import Derived.Deep.CutBlock
namespace Go.Proofs.YtdlkobmlnpijgaaDoor
open Go.RowKit
set_option linter.unusedVariables false
set_option linter.unusedSimpArgs false
set_option maxRecDepth 1000000
set_option maxHeartbeats 12800000
structure RrSt (O : ObjD) (s : ObjV) (w : World) (b : Nat) (W : World) : Prop where
  box : W.heap[b]? = some (.cells (objCells O s) 35 (0, 0))
  m : ObjM W O s
  ut : UT W
  bel : Below b w W
section
variable {O : ObjD} {s : ObjV} {w W W' : World} {b : Nat}
theorem RrSt.below (h : RrSt O s w b W) (hb : Below W.heap.size W W') : RrSt O s w b W' :=
  ⟨(hb.block _ (block_lt h.box)).trans h.box, h.m.below hb, h.ut.below hb, h.bel.trans (hb.mono (Nat.le_of_lt (block_lt h.box)))⟩
theorem RrSt.cell (h : RrSt O s w b W) {j : Nat} {v : Value} (hv : (objCells O s)[j]? = some v) : W.cell? ⟨b, j, none⟩ = some v := cell_of_block h.box hv
end
def typOk (O : ObjD) : Bool := O.typ == 2 || (O.typ == 3 || (O.typ == 4 || O.typ == 7))
def rP1 (O : ObjD) : Bool := isT O.id && (typOk O && (inB O.alg 0 100 && (inB O.len 0 100000 && (inB O.mask 0 1048575 && (decide (O.mat.length ≤ 128) && (inB O.st 1 6 && inB O.reason 0 7))))))
def rP3 (O : ObjD) : Bool := (decide (O.msg.size = 0) || (!(O.reason == 0) && isT O.msg)) && (decide (O.names.length ≤ 6) && (decide (O.links.length ≤ 8) && decide (O.custom.length ≤ 6)))
theorem allO_long {α : Type} [DecidableEq α] {f : α → Bool} {m : Nat} {l : List α} (h : decide (l.length ≤ m) = false) : allO f m l = false := by unfold allO; rw [h]; simp
theorem right_no1 {O : ObjD} (h : rP1 O = false) : rightO O = false := by
  cases hr : rightO O with
  | false => rfl
  | true =>
    unfold rightO at hr
    unfold rP1 typOk at h
    simp only [Bool.and_eq_true] at hr
    obtain ⟨h1, -, h2, h3, h4, h5, h6, h7, h8, -⟩ := hr
    simp only [h1, h2, h3, h4, h5, h6, h7, h8, Bool.and_self] at h
    cases h
theorem right_no3 {O : ObjD} (h : rP3 O = false) : rightO O = false := by
  cases hr : rightO O with
  | false => rfl
  | true =>
    unfold rightO at hr
    unfold rP3 at h
    simp only [Bool.and_eq_true] at hr
    obtain ⟨-, -, -, -, -, -, -, -, -, h1, h2, h3, h4, -⟩ := hr
    have k2 : O.names.length ≤ 6 := (allO_iff.1 h2).2.2
    have k3 : O.links.length ≤ 8 := (allO_iff.1 h3).2.2
    have k4 : O.custom.length ≤ 6 := (allO_iff.1 h4).2.2
    simp only [h1, k2, k3, k4, decide_true, Bool.and_self] at h
    cases h
theorem right_yes {O : ObjD} (h1 : rP1 O = true) (h2 : O.dates.all dateOk = true) (h3 : rP3 O = true) (h4 : allO isT 6 O.names = true) (h5 : allO linkOk 8 O.links = true) (h6 : allO custOk 6 O.custom = true) : rightO O = limOk O := by
  unfold rP1 typOk at h1
  unfold rP3 at h3
  simp only [Bool.and_eq_true] at h1 h3
  obtain ⟨g1, g2, g3, g4, g5, g6, g7, g8⟩ := h1
  obtain ⟨k1, k2, k3, k4⟩ := h3
  unfold rightO
  simp only [g1, g2, g3, g4, g5, g6, g7, g8, k1, h2, h4, h5, h6, Bool.and_self, Bool.true_and]
theorem inB_lo {n a c : Int} (h : n < a) : inB n a c = false := by unfold inB; simp; omega
theorem inB_hi {n a c : Int} (h : c < n) : inB n a c = false := by unfold inB; simp; omega
theorem inB_ok {n a c : Int} (h : ¬ n < a) (k : ¬ c < n) : inB n a c = true := by unfold inB; simp; omega
theorem str_nil' {s : ByteArray} (h : s.size = 0) : s.toList.isEmpty = true := by rw [str_empty h, ByteArray.toList_eq]; rfl
theorem valid_none : Lib.validD [] = true := by kernel_rfl
def orA (O : ObjD) (n : Nat) : Bool := (((((((((((((!(isT O.id)) || ((((O.typ != 2) && (O.typ != 3)) && (O.typ != 4)) && (O.typ != 7))) || (decide (O.alg < 0))) || (decide (100 < O.alg))) || (decide (O.len < 0))) || (decide (100000 < O.len))) || (decide (O.mask < 0))) || (decide (1048575 < O.mask))) || (decide ((128 : Int) < (n : Int)))) || (decide (O.st < 1))) || (decide (6 < O.st))) || (decide (O.reason < 0))) || (decide (7 < O.reason)))
def orC (O : ObjD) (a c d : Nat) : Bool := ((((((decide ((120 : Int) < (O.msg.size : Int))) || (!(Lib.validD O.msg.data.toList))) || ((O.reason == 0) && (!O.msg.toList.isEmpty))) || (decide ((6 : Int) < (a : Int)))) || (decide ((8 : Int) < (c : Int)))) || (decide ((6 : Int) < (d : Int))))
theorem orA_eq {O : ObjD} {n : Nat} (h : O.mat.length = n) : orA O n = !(rP1 O) := by
  unfold orA rP1 typOk inB
  rw [h]
  generalize isT O.id = c1
  rw [Bool.eq_iff_iff]
  cases c1 <;> simp <;> omega
theorem p1_yes {O : ObjD} {n : Nat} (h : O.mat.length = n) (k : orA O n = false) : rP1 O = true := by rw [orA_eq h] at k; simpa using k
theorem p1_no {O : ObjD} {n : Nat} (h : O.mat.length = n) (k : orA O n = true) : rP1 O = false := by rw [orA_eq h] at k; simpa using k
theorem msgs (O : ObjD) : (decide (O.msg.size = 0) || (!(O.reason == 0) && isT O.msg)) = !(((decide ((120 : Int) < (O.msg.size : Int))) || (!(Lib.validD O.msg.data.toList))) || ((O.reason == 0) && (!O.msg.toList.isEmpty))) := by
  by_cases h0 : O.msg.size = 0
  · have h1 := str_nil' h0
    have h2 : Lib.validD O.msg.data.toList = true := by rw [str_empty h0]; exact valid_none
    simp [h0, h1, h2]
  · have h1 := str_no h0
    by_cases h2 : O.msg.size ≤ 120
    · have h3 : ¬ (120 : Int) < (O.msg.size : Int) := by omega
      rw [isT_valid h0 h2]
      simp only [h0, h1, h3, decide_false, Bool.false_or, Bool.not_false, Bool.and_true, Bool.not_or, Bool.not_not]
      rw [Bool.and_comm]
    · have h3 : (120 : Int) < (O.msg.size : Int) := by omega
      rw [isT_long (by omega)]
      simp [h0, h3]
theorem orC_eq {O : ObjD} {a c d : Nat} (h1 : O.names.length = a) (h2 : O.links.length = c) (h3 : O.custom.length = d) : orC O a c d = !(rP3 O) := by
  unfold orC rP3
  rw [msgs, h1, h2, h3]
  generalize (((decide ((120 : Int) < (O.msg.size : Int))) || (!(Lib.validD O.msg.data.toList))) || ((O.reason == 0) && (!O.msg.toList.isEmpty))) = m
  rw [Bool.eq_iff_iff]
  cases m <;> simp <;> omega
theorem p3_yes {O : ObjD} {a c d : Nat} (h1 : O.names.length = a) (h2 : O.links.length = c) (h3 : O.custom.length = d) (k : orC O a c d = false) : rP3 O = true := by rw [orC_eq h1 h2 h3] at k; simpa using k
theorem p3_no {O : ObjD} {a c d : Nat} (h1 : O.names.length = a) (h2 : O.links.length = c) (h3 : O.custom.length = d) (k : orC O a c d = true) : rP3 O = false := by rw [orC_eq h1 h2 h3] at k; simpa using k
theorem date_range1 {w : World} {b : Nat} {O : ObjD} {s : ObjV} {T : TypeId} {fr : Nat × Nat} (h : w.heap[b]? = some (.cells (objCells O s) T fr)) {k : Nat} (hk : k < 10) : w.rangeAt b (7 + k * 2) [.bool (O.dat k).1, .int .i64 (O.dat k).2] := by
  intro j v hv
  match j, hv with
  | 0, hv => cases hv; exact cell_of_block h (ocH O s k hk)
  | 1, hv => cases hv; exact cell_of_block h (ocT O s k hk)
  | j + 2, hv => simp at hv
theorem rright_any (O : ObjD) (s : ObjV) (w : World) (h : ObjM w O s) (hT : UT w) : Calls Tryd.prog 18 #[.agg (objCells O s)] w fun e w' => e = .returned (.bool (rightO O)) ∧ Below w.heap.size w w' := by
  have hml : O.mat.length = s.mat.n := by have := h.mat.rd.len; simpa using this
  have HML := hid hml
  have Nnames : Hid (O.names.length = s.names.n) := by have := h.names.rd.len; simpa [Hid] using this
  have Nlinks : Hid (O.links.length = s.links.n) := by have := h.links.rd.len; unfold linkCells at this; rw [flat_len] at this; show _ = _; omega
  have Ncustom : Hid (O.custom.length = s.custom.n) := by have := h.custom.rd.len; unfold custCells at this; rw [flat_len] at this; show _ = _; omega
  have HM0 := hid h; have HT0 := hid hT
  clear h hT hml
  generalize hbe : w.heap.size = b
  have HBE := hid hbe; clear hbe
  go_enter Tryd.func18, Tryd.ntmps18
  go_upto_region 1 with (fail)
  have hbw : Below w.heap.size w (w.alloc (.cells (objCells O s) 35)) := (Below.refl _ w).alloc (Nat.le_refl _) _
  have hbn := block_new w (.cells (objCells O s) 35)
  have hmw := HM0.out.below hbw; have htw := HT0.out.below hbw
  rw [HBE.out] at hbw hbn ⊢
  have S : Hid (RrSt O s w b (w.alloc (.cells (objCells O s) 35))) := ⟨hbn, hmw, htw, hbw⟩
  clear hbw hbn hmw htw HM0 HT0
  generalize w.alloc (.cells (objCells O s) 35) = W at *
  go_cut [91] (fun x wx => ∃ v, x = .bool v ∧ (v = false → rP1 O = true) ∧ (v = true → rightO O = false) ∧ RrSt O s w b wx)
  case first =>
    as_aux_lemma =>
      rename_i J1 K1 HJ1 HK1
      refine wp_region_eachP 80 [.eq (.pointer (some ⟨b, 0, none⟩)), .eq (.string O.id), .eq (.bool (isT O.id)), .eq (.bool (!(isT O.id))), .eq (.bool (!(isT O.id))), .eq (if (!(!(isT O.id))) = true then .pointer (some ⟨b, 1, none⟩) else undef), .eq (if (!(!(isT O.id))) = true then .int .i64 O.typ else undef), .eq (if (!(!(isT O.id))) = true then .bool (O.typ != 2) else undef), .eq (if (!(!(isT O.id))) = true then .bool (O.typ != 2) else undef), .eq (if ((!(!(isT O.id))) && (O.typ != 2)) = true then .pointer (some ⟨b, 1, none⟩) else undef), .eq (if ((!(!(isT O.id))) && (O.typ != 2)) = true then .int .i64 O.typ else undef), .eq (if ((!(!(isT O.id))) && (O.typ != 2)) = true then .bool (O.typ != 3) else undef), .eq (if (!(!(isT O.id))) = true then .bool ((O.typ != 2) && (O.typ != 3)) else undef), .eq (if (!(!(isT O.id))) = true then .bool ((O.typ != 2) && (O.typ != 3)) else undef), .eq (if ((!(!(isT O.id))) && ((O.typ != 2) && (O.typ != 3))) = true then .pointer (some ⟨b, 1, none⟩) else undef), .eq (if ((!(!(isT O.id))) && ((O.typ != 2) && (O.typ != 3))) = true then .int .i64 O.typ else undef), .eq (if ((!(!(isT O.id))) && ((O.typ != 2) && (O.typ != 3))) = true then .bool (O.typ != 4) else undef), .eq (if (!(!(isT O.id))) = true then .bool (((O.typ != 2) && (O.typ != 3)) && (O.typ != 4)) else undef), .eq (if (!(!(isT O.id))) = true then .bool (((O.typ != 2) && (O.typ != 3)) && (O.typ != 4)) else undef), .eq (if ((!(!(isT O.id))) && (((O.typ != 2) && (O.typ != 3)) && (O.typ != 4))) = true then .pointer (some ⟨b, 1, none⟩) else undef), .eq (if ((!(!(isT O.id))) && (((O.typ != 2) && (O.typ != 3)) && (O.typ != 4))) = true then .int .i64 O.typ else undef), .eq (if ((!(!(isT O.id))) && (((O.typ != 2) && (O.typ != 3)) && (O.typ != 4))) = true then .bool (O.typ != 7) else undef), .eq (if (!(!(isT O.id))) = true then .bool ((((O.typ != 2) && (O.typ != 3)) && (O.typ != 4)) && (O.typ != 7)) else undef), .eq (.bool ((!(isT O.id)) || ((((O.typ != 2) && (O.typ != 3)) && (O.typ != 4)) && (O.typ != 7)))), .eq (.bool ((!(isT O.id)) || ((((O.typ != 2) && (O.typ != 3)) && (O.typ != 4)) && (O.typ != 7)))), .eq (if (!((!(isT O.id)) || ((((O.typ != 2) && (O.typ != 3)) && (O.typ != 4)) && (O.typ != 7)))) = true then .pointer (some ⟨b, 2, none⟩) else undef), .eq (if (!((!(isT O.id)) || ((((O.typ != 2) && (O.typ != 3)) && (O.typ != 4)) && (O.typ != 7)))) = true then .int .i64 O.alg else undef), .eq (if (!((!(isT O.id)) || ((((O.typ != 2) && (O.typ != 3)) && (O.typ != 4)) && (O.typ != 7)))) = true then .bool (decide (O.alg < 0)) else undef), .eq (.bool (((!(isT O.id)) || ((((O.typ != 2) && (O.typ != 3)) && (O.typ != 4)) && (O.typ != 7))) || (decide (O.alg < 0)))), .eq (.bool (((!(isT O.id)) || ((((O.typ != 2) && (O.typ != 3)) && (O.typ != 4)) && (O.typ != 7))) || (decide (O.alg < 0)))), .eq (if (!(((!(isT O.id)) || ((((O.typ != 2) && (O.typ != 3)) && (O.typ != 4)) && (O.typ != 7))) || (decide (O.alg < 0)))) = true then .pointer (some ⟨b, 2, none⟩) else undef), .eq (if (!(((!(isT O.id)) || ((((O.typ != 2) && (O.typ != 3)) && (O.typ != 4)) && (O.typ != 7))) || (decide (O.alg < 0)))) = true then .int .i64 O.alg else undef), .eq (if (!(((!(isT O.id)) || ((((O.typ != 2) && (O.typ != 3)) && (O.typ != 4)) && (O.typ != 7))) || (decide (O.alg < 0)))) = true then .bool (decide (100 < O.alg)) else undef), .eq (.bool ((((!(isT O.id)) || ((((O.typ != 2) && (O.typ != 3)) && (O.typ != 4)) && (O.typ != 7))) || (decide (O.alg < 0))) || (decide (100 < O.alg)))), .eq (.bool ((((!(isT O.id)) || ((((O.typ != 2) && (O.typ != 3)) && (O.typ != 4)) && (O.typ != 7))) || (decide (O.alg < 0))) || (decide (100 < O.alg)))), .eq (if (!((((!(isT O.id)) || ((((O.typ != 2) && (O.typ != 3)) && (O.typ != 4)) && (O.typ != 7))) || (decide (O.alg < 0))) || (decide (100 < O.alg)))) = true then .pointer (some ⟨b, 3, none⟩) else undef), .eq (if (!((((!(isT O.id)) || ((((O.typ != 2) && (O.typ != 3)) && (O.typ != 4)) && (O.typ != 7))) || (decide (O.alg < 0))) || (decide (100 < O.alg)))) = true then .int .i64 O.len else undef), .eq (if (!((((!(isT O.id)) || ((((O.typ != 2) && (O.typ != 3)) && (O.typ != 4)) && (O.typ != 7))) || (decide (O.alg < 0))) || (decide (100 < O.alg)))) = true then .bool (decide (O.len < 0)) else undef), .eq (.bool (((((!(isT O.id)) || ((((O.typ != 2) && (O.typ != 3)) && (O.typ != 4)) && (O.typ != 7))) || (decide (O.alg < 0))) || (decide (100 < O.alg))) || (decide (O.len < 0)))), .eq (.bool (((((!(isT O.id)) || ((((O.typ != 2) && (O.typ != 3)) && (O.typ != 4)) && (O.typ != 7))) || (decide (O.alg < 0))) || (decide (100 < O.alg))) || (decide (O.len < 0)))), .eq (if (!(((((!(isT O.id)) || ((((O.typ != 2) && (O.typ != 3)) && (O.typ != 4)) && (O.typ != 7))) || (decide (O.alg < 0))) || (decide (100 < O.alg))) || (decide (O.len < 0)))) = true then .pointer (some ⟨b, 3, none⟩) else undef), .eq (if (!(((((!(isT O.id)) || ((((O.typ != 2) && (O.typ != 3)) && (O.typ != 4)) && (O.typ != 7))) || (decide (O.alg < 0))) || (decide (100 < O.alg))) || (decide (O.len < 0)))) = true then .int .i64 O.len else undef), .eq (if (!(((((!(isT O.id)) || ((((O.typ != 2) && (O.typ != 3)) && (O.typ != 4)) && (O.typ != 7))) || (decide (O.alg < 0))) || (decide (100 < O.alg))) || (decide (O.len < 0)))) = true then .bool (decide (100000 < O.len)) else undef), .eq (.bool ((((((!(isT O.id)) || ((((O.typ != 2) && (O.typ != 3)) && (O.typ != 4)) && (O.typ != 7))) || (decide (O.alg < 0))) || (decide (100 < O.alg))) || (decide (O.len < 0))) || (decide (100000 < O.len)))), .eq (.bool ((((((!(isT O.id)) || ((((O.typ != 2) && (O.typ != 3)) && (O.typ != 4)) && (O.typ != 7))) || (decide (O.alg < 0))) || (decide (100 < O.alg))) || (decide (O.len < 0))) || (decide (100000 < O.len)))), .eq (if (!((((((!(isT O.id)) || ((((O.typ != 2) && (O.typ != 3)) && (O.typ != 4)) && (O.typ != 7))) || (decide (O.alg < 0))) || (decide (100 < O.alg))) || (decide (O.len < 0))) || (decide (100000 < O.len)))) = true then .pointer (some ⟨b, 4, none⟩) else undef), .eq (if (!((((((!(isT O.id)) || ((((O.typ != 2) && (O.typ != 3)) && (O.typ != 4)) && (O.typ != 7))) || (decide (O.alg < 0))) || (decide (100 < O.alg))) || (decide (O.len < 0))) || (decide (100000 < O.len)))) = true then .int .i64 O.mask else undef), .eq (if (!((((((!(isT O.id)) || ((((O.typ != 2) && (O.typ != 3)) && (O.typ != 4)) && (O.typ != 7))) || (decide (O.alg < 0))) || (decide (100 < O.alg))) || (decide (O.len < 0))) || (decide (100000 < O.len)))) = true then .bool (decide (O.mask < 0)) else undef), .eq (.bool (((((((!(isT O.id)) || ((((O.typ != 2) && (O.typ != 3)) && (O.typ != 4)) && (O.typ != 7))) || (decide (O.alg < 0))) || (decide (100 < O.alg))) || (decide (O.len < 0))) || (decide (100000 < O.len))) || (decide (O.mask < 0)))), .eq (.bool (((((((!(isT O.id)) || ((((O.typ != 2) && (O.typ != 3)) && (O.typ != 4)) && (O.typ != 7))) || (decide (O.alg < 0))) || (decide (100 < O.alg))) || (decide (O.len < 0))) || (decide (100000 < O.len))) || (decide (O.mask < 0)))), .eq (if (!(((((((!(isT O.id)) || ((((O.typ != 2) && (O.typ != 3)) && (O.typ != 4)) && (O.typ != 7))) || (decide (O.alg < 0))) || (decide (100 < O.alg))) || (decide (O.len < 0))) || (decide (100000 < O.len))) || (decide (O.mask < 0)))) = true then .pointer (some ⟨b, 4, none⟩) else undef), .eq (if (!(((((((!(isT O.id)) || ((((O.typ != 2) && (O.typ != 3)) && (O.typ != 4)) && (O.typ != 7))) || (decide (O.alg < 0))) || (decide (100 < O.alg))) || (decide (O.len < 0))) || (decide (100000 < O.len))) || (decide (O.mask < 0)))) = true then .int .i64 O.mask else undef), .eq (if (!(((((((!(isT O.id)) || ((((O.typ != 2) && (O.typ != 3)) && (O.typ != 4)) && (O.typ != 7))) || (decide (O.alg < 0))) || (decide (100 < O.alg))) || (decide (O.len < 0))) || (decide (100000 < O.len))) || (decide (O.mask < 0)))) = true then .bool (decide (1048575 < O.mask)) else undef), .eq (.bool ((((((((!(isT O.id)) || ((((O.typ != 2) && (O.typ != 3)) && (O.typ != 4)) && (O.typ != 7))) || (decide (O.alg < 0))) || (decide (100 < O.alg))) || (decide (O.len < 0))) || (decide (100000 < O.len))) || (decide (O.mask < 0))) || (decide (1048575 < O.mask)))), .eq (.bool ((((((((!(isT O.id)) || ((((O.typ != 2) && (O.typ != 3)) && (O.typ != 4)) && (O.typ != 7))) || (decide (O.alg < 0))) || (decide (100 < O.alg))) || (decide (O.len < 0))) || (decide (100000 < O.len))) || (decide (O.mask < 0))) || (decide (1048575 < O.mask)))), .eq (if (!((((((((!(isT O.id)) || ((((O.typ != 2) && (O.typ != 3)) && (O.typ != 4)) && (O.typ != 7))) || (decide (O.alg < 0))) || (decide (100 < O.alg))) || (decide (O.len < 0))) || (decide (100000 < O.len))) || (decide (O.mask < 0))) || (decide (1048575 < O.mask)))) = true then .pointer (some ⟨b, 5, none⟩) else undef), .eq (if (!((((((((!(isT O.id)) || ((((O.typ != 2) && (O.typ != 3)) && (O.typ != 4)) && (O.typ != 7))) || (decide (O.alg < 0))) || (decide (100 < O.alg))) || (decide (O.len < 0))) || (decide (100000 < O.len))) || (decide (O.mask < 0))) || (decide (1048575 < O.mask)))) = true then .slice s.mat.a s.mat.n s.mat.c else undef), .eq (if (!((((((((!(isT O.id)) || ((((O.typ != 2) && (O.typ != 3)) && (O.typ != 4)) && (O.typ != 7))) || (decide (O.alg < 0))) || (decide (100 < O.alg))) || (decide (O.len < 0))) || (decide (100000 < O.len))) || (decide (O.mask < 0))) || (decide (1048575 < O.mask)))) = true then .int .i64 (s.mat.n : Int) else undef), .eq (if (!((((((((!(isT O.id)) || ((((O.typ != 2) && (O.typ != 3)) && (O.typ != 4)) && (O.typ != 7))) || (decide (O.alg < 0))) || (decide (100 < O.alg))) || (decide (O.len < 0))) || (decide (100000 < O.len))) || (decide (O.mask < 0))) || (decide (1048575 < O.mask)))) = true then .bool (decide ((128 : Int) < (s.mat.n : Int))) else undef), .eq (.bool (((((((((!(isT O.id)) || ((((O.typ != 2) && (O.typ != 3)) && (O.typ != 4)) && (O.typ != 7))) || (decide (O.alg < 0))) || (decide (100 < O.alg))) || (decide (O.len < 0))) || (decide (100000 < O.len))) || (decide (O.mask < 0))) || (decide (1048575 < O.mask))) || (decide ((128 : Int) < (s.mat.n : Int))))), .eq (.bool (((((((((!(isT O.id)) || ((((O.typ != 2) && (O.typ != 3)) && (O.typ != 4)) && (O.typ != 7))) || (decide (O.alg < 0))) || (decide (100 < O.alg))) || (decide (O.len < 0))) || (decide (100000 < O.len))) || (decide (O.mask < 0))) || (decide (1048575 < O.mask))) || (decide ((128 : Int) < (s.mat.n : Int))))), .eq (if (!(((((((((!(isT O.id)) || ((((O.typ != 2) && (O.typ != 3)) && (O.typ != 4)) && (O.typ != 7))) || (decide (O.alg < 0))) || (decide (100 < O.alg))) || (decide (O.len < 0))) || (decide (100000 < O.len))) || (decide (O.mask < 0))) || (decide (1048575 < O.mask))) || (decide ((128 : Int) < (s.mat.n : Int))))) = true then .pointer (some ⟨b, 6, none⟩) else undef), .eq (if (!(((((((((!(isT O.id)) || ((((O.typ != 2) && (O.typ != 3)) && (O.typ != 4)) && (O.typ != 7))) || (decide (O.alg < 0))) || (decide (100 < O.alg))) || (decide (O.len < 0))) || (decide (100000 < O.len))) || (decide (O.mask < 0))) || (decide (1048575 < O.mask))) || (decide ((128 : Int) < (s.mat.n : Int))))) = true then .int .i64 O.st else undef), .eq (if (!(((((((((!(isT O.id)) || ((((O.typ != 2) && (O.typ != 3)) && (O.typ != 4)) && (O.typ != 7))) || (decide (O.alg < 0))) || (decide (100 < O.alg))) || (decide (O.len < 0))) || (decide (100000 < O.len))) || (decide (O.mask < 0))) || (decide (1048575 < O.mask))) || (decide ((128 : Int) < (s.mat.n : Int))))) = true then .bool (decide (O.st < 1)) else undef), .eq (.bool ((((((((((!(isT O.id)) || ((((O.typ != 2) && (O.typ != 3)) && (O.typ != 4)) && (O.typ != 7))) || (decide (O.alg < 0))) || (decide (100 < O.alg))) || (decide (O.len < 0))) || (decide (100000 < O.len))) || (decide (O.mask < 0))) || (decide (1048575 < O.mask))) || (decide ((128 : Int) < (s.mat.n : Int)))) || (decide (O.st < 1)))), .eq (.bool ((((((((((!(isT O.id)) || ((((O.typ != 2) && (O.typ != 3)) && (O.typ != 4)) && (O.typ != 7))) || (decide (O.alg < 0))) || (decide (100 < O.alg))) || (decide (O.len < 0))) || (decide (100000 < O.len))) || (decide (O.mask < 0))) || (decide (1048575 < O.mask))) || (decide ((128 : Int) < (s.mat.n : Int)))) || (decide (O.st < 1)))), .eq (if (!((((((((((!(isT O.id)) || ((((O.typ != 2) && (O.typ != 3)) && (O.typ != 4)) && (O.typ != 7))) || (decide (O.alg < 0))) || (decide (100 < O.alg))) || (decide (O.len < 0))) || (decide (100000 < O.len))) || (decide (O.mask < 0))) || (decide (1048575 < O.mask))) || (decide ((128 : Int) < (s.mat.n : Int)))) || (decide (O.st < 1)))) = true then .pointer (some ⟨b, 6, none⟩) else undef), .eq (if (!((((((((((!(isT O.id)) || ((((O.typ != 2) && (O.typ != 3)) && (O.typ != 4)) && (O.typ != 7))) || (decide (O.alg < 0))) || (decide (100 < O.alg))) || (decide (O.len < 0))) || (decide (100000 < O.len))) || (decide (O.mask < 0))) || (decide (1048575 < O.mask))) || (decide ((128 : Int) < (s.mat.n : Int)))) || (decide (O.st < 1)))) = true then .int .i64 O.st else undef), .eq (if (!((((((((((!(isT O.id)) || ((((O.typ != 2) && (O.typ != 3)) && (O.typ != 4)) && (O.typ != 7))) || (decide (O.alg < 0))) || (decide (100 < O.alg))) || (decide (O.len < 0))) || (decide (100000 < O.len))) || (decide (O.mask < 0))) || (decide (1048575 < O.mask))) || (decide ((128 : Int) < (s.mat.n : Int)))) || (decide (O.st < 1)))) = true then .bool (decide (6 < O.st)) else undef), .eq (.bool (((((((((((!(isT O.id)) || ((((O.typ != 2) && (O.typ != 3)) && (O.typ != 4)) && (O.typ != 7))) || (decide (O.alg < 0))) || (decide (100 < O.alg))) || (decide (O.len < 0))) || (decide (100000 < O.len))) || (decide (O.mask < 0))) || (decide (1048575 < O.mask))) || (decide ((128 : Int) < (s.mat.n : Int)))) || (decide (O.st < 1))) || (decide (6 < O.st)))), .eq (.bool (((((((((((!(isT O.id)) || ((((O.typ != 2) && (O.typ != 3)) && (O.typ != 4)) && (O.typ != 7))) || (decide (O.alg < 0))) || (decide (100 < O.alg))) || (decide (O.len < 0))) || (decide (100000 < O.len))) || (decide (O.mask < 0))) || (decide (1048575 < O.mask))) || (decide ((128 : Int) < (s.mat.n : Int)))) || (decide (O.st < 1))) || (decide (6 < O.st)))), .eq (if (!(((((((((((!(isT O.id)) || ((((O.typ != 2) && (O.typ != 3)) && (O.typ != 4)) && (O.typ != 7))) || (decide (O.alg < 0))) || (decide (100 < O.alg))) || (decide (O.len < 0))) || (decide (100000 < O.len))) || (decide (O.mask < 0))) || (decide (1048575 < O.mask))) || (decide ((128 : Int) < (s.mat.n : Int)))) || (decide (O.st < 1))) || (decide (6 < O.st)))) = true then .pointer (some ⟨b, 27, none⟩) else undef), .eq (if (!(((((((((((!(isT O.id)) || ((((O.typ != 2) && (O.typ != 3)) && (O.typ != 4)) && (O.typ != 7))) || (decide (O.alg < 0))) || (decide (100 < O.alg))) || (decide (O.len < 0))) || (decide (100000 < O.len))) || (decide (O.mask < 0))) || (decide (1048575 < O.mask))) || (decide ((128 : Int) < (s.mat.n : Int)))) || (decide (O.st < 1))) || (decide (6 < O.st)))) = true then .int .i64 O.reason else undef), .eq (if (!(((((((((((!(isT O.id)) || ((((O.typ != 2) && (O.typ != 3)) && (O.typ != 4)) && (O.typ != 7))) || (decide (O.alg < 0))) || (decide (100 < O.alg))) || (decide (O.len < 0))) || (decide (100000 < O.len))) || (decide (O.mask < 0))) || (decide (1048575 < O.mask))) || (decide ((128 : Int) < (s.mat.n : Int)))) || (decide (O.st < 1))) || (decide (6 < O.st)))) = true then .bool (decide (O.reason < 0)) else undef), .eq (.bool ((((((((((((!(isT O.id)) || ((((O.typ != 2) && (O.typ != 3)) && (O.typ != 4)) && (O.typ != 7))) || (decide (O.alg < 0))) || (decide (100 < O.alg))) || (decide (O.len < 0))) || (decide (100000 < O.len))) || (decide (O.mask < 0))) || (decide (1048575 < O.mask))) || (decide ((128 : Int) < (s.mat.n : Int)))) || (decide (O.st < 1))) || (decide (6 < O.st))) || (decide (O.reason < 0)))), .eq (.bool ((((((((((((!(isT O.id)) || ((((O.typ != 2) && (O.typ != 3)) && (O.typ != 4)) && (O.typ != 7))) || (decide (O.alg < 0))) || (decide (100 < O.alg))) || (decide (O.len < 0))) || (decide (100000 < O.len))) || (decide (O.mask < 0))) || (decide (1048575 < O.mask))) || (decide ((128 : Int) < (s.mat.n : Int)))) || (decide (O.st < 1))) || (decide (6 < O.st))) || (decide (O.reason < 0)))), .eq (if (!((((((((((((!(isT O.id)) || ((((O.typ != 2) && (O.typ != 3)) && (O.typ != 4)) && (O.typ != 7))) || (decide (O.alg < 0))) || (decide (100 < O.alg))) || (decide (O.len < 0))) || (decide (100000 < O.len))) || (decide (O.mask < 0))) || (decide (1048575 < O.mask))) || (decide ((128 : Int) < (s.mat.n : Int)))) || (decide (O.st < 1))) || (decide (6 < O.st))) || (decide (O.reason < 0)))) = true then .pointer (some ⟨b, 27, none⟩) else undef), .eq (if (!((((((((((((!(isT O.id)) || ((((O.typ != 2) && (O.typ != 3)) && (O.typ != 4)) && (O.typ != 7))) || (decide (O.alg < 0))) || (decide (100 < O.alg))) || (decide (O.len < 0))) || (decide (100000 < O.len))) || (decide (O.mask < 0))) || (decide (1048575 < O.mask))) || (decide ((128 : Int) < (s.mat.n : Int)))) || (decide (O.st < 1))) || (decide (6 < O.st))) || (decide (O.reason < 0)))) = true then .int .i64 O.reason else undef), .eq (if (!((((((((((((!(isT O.id)) || ((((O.typ != 2) && (O.typ != 3)) && (O.typ != 4)) && (O.typ != 7))) || (decide (O.alg < 0))) || (decide (100 < O.alg))) || (decide (O.len < 0))) || (decide (100000 < O.len))) || (decide (O.mask < 0))) || (decide (1048575 < O.mask))) || (decide ((128 : Int) < (s.mat.n : Int)))) || (decide (O.st < 1))) || (decide (6 < O.st))) || (decide (O.reason < 0)))) = true then .bool (decide (7 < O.reason)) else undef), .eq (.bool (((((((((((((!(isT O.id)) || ((((O.typ != 2) && (O.typ != 3)) && (O.typ != 4)) && (O.typ != 7))) || (decide (O.alg < 0))) || (decide (100 < O.alg))) || (decide (O.len < 0))) || (decide (100000 < O.len))) || (decide (O.mask < 0))) || (decide (1048575 < O.mask))) || (decide ((128 : Int) < (s.mat.n : Int)))) || (decide (O.st < 1))) || (decide (6 < O.st))) || (decide (O.reason < 0))) || (decide (7 < O.reason))))] (by kernel_rfl) ?_ ?_
      · all_goals
          refine each_5 ?_ ?_ ?_ ?_ ?_ (each_5 ?_ ?_ ?_ ?_ ?_ (each_5 ?_ ?_ ?_ ?_ ?_ (each_5 ?_ ?_ ?_ ?_ ?_ (each_5 ?_ ?_ ?_ ?_ ?_ (each_5 ?_ ?_ ?_ ?_ ?_ (each_5 ?_ ?_ ?_ ?_ ?_ (each_5 ?_ ?_ ?_ ?_ ?_ (each_5 ?_ ?_ ?_ ?_ ?_ (each_5 ?_ ?_ ?_ ?_ ?_ (each_5 ?_ ?_ ?_ ?_ ?_ (each_5 ?_ ?_ ?_ ?_ ?_ (each_5 ?_ ?_ ?_ ?_ ?_ (each_5 ?_ ?_ ?_ ?_ ?_ (each_5 ?_ ?_ ?_ ?_ ?_ (each_5 ?_ ?_ ?_ ?_ ?_ (each_n))))))))))))))))
          · intro w1 hg Ar seen
            have s1 := seen.sl 1 (.pointer (some ⟨b, 0, none⟩))
            refine does_plain rfl fun K Q' hK => ?_
            go_simp; exact hK _ _ (Grow.refl _) rfl
          · intro w1 hg Ar seen
            have e0 := seen.de 0 12
            refine does_plain rfl fun K Q' hK => ?_
            have hc0 := cell_of_block (j := 0) ((hg.block _ (block_lt S.out.box)).trans S.out.box) (oc0 O s)
            go_simp; exact hK _ _ (Grow.refl _) rfl
          · intro w1 hg Ar seen
            have e1 := seen.de 1 13
            refine does_plain rfl fun K Q' hK => ?_
            go_simp
            refine (risText_any O.id _ (S.out.ut.below hg)).mono ?_
            rintro e u ⟨rfl, hb⟩
            exact hK _ _ hb rfl
          · intro w1 hg Ar seen
            have e2 := seen.de 2 14
            refine does_plain rfl fun K Q' hK => ?_
            go_simp; exact hK _ _ (Grow.refl _) rfl
          · intro w1 hg Ar seen
            have e3 := seen.de 3 15
            refine does_plain rfl fun K Q' hK => ?_
            go_simp; exact hK _ _ (Grow.refl _) rfl
          · intro w1 hg Ar seen
            have s1 := seen.sl 1 (.pointer (some ⟨b, 0, none⟩))
            have eg := seen.de 4 16
            by_cases hc0 : ((!(isT O.id)) : Bool) = true
            · have hc := hc0
              clear hc0
              rw [hc] at eg
              have hWi : (!(!(isT O.id))) = false := by rw [hc]; rfl
              exact does_off rfl (by kernel_rfl) eg ne_tf (Grow.refl _) (show undef = _ from (if_f hWi).symm)
            · have hc : ((!(isT O.id)) : Bool) = false := by rw [← Bool.not_eq_true]; exact hc0
              clear hc0
              rw [hc] at eg
              have hWi : (!(!(isT O.id))) = true := by rw [hc]; rfl
              refine does_on rfl (by kernel_rfl) eg fun K Q' hK => ?_
              clear eg
              have hf : Hid ((.pointer (some ⟨b, 1, none⟩) : Value) = (if (!(!(isT O.id))) = true then .pointer (some ⟨b, 1, none⟩) else undef)) := (if_t hWi).symm
              clear hWi hc
              go_simp; exact hK _ _ (Grow.refl _) hf.out
          · intro w1 hg Ar seen
            have e5 := seen.de 5 17
            have eg := seen.de 4 16
            by_cases hc0 : ((!(isT O.id)) : Bool) = true
            · have hc := hc0
              clear hc0
              rw [hc] at eg
              have hWi : (!(!(isT O.id))) = false := by rw [hc]; rfl
              exact does_off rfl (by kernel_rfl) eg ne_tf (Grow.refl _) (show undef = _ from (if_f hWi).symm)
            · have hc : ((!(isT O.id)) : Bool) = false := by rw [← Bool.not_eq_true]; exact hc0
              clear hc0
              rw [hc] at eg
              have hWi : (!(!(isT O.id))) = true := by rw [hc]; rfl
              refine does_on rfl (by kernel_rfl) eg fun K Q' hK => ?_
              clear eg
              replace e5 := e5.trans (congrArg some (if_t hWi))
              have hf : Hid ((.int .i64 O.typ : Value) = (if (!(!(isT O.id))) = true then .int .i64 O.typ else undef)) := (if_t hWi).symm
              clear hWi hc
              have hc0 := cell_of_block (j := 1) ((hg.block _ (block_lt S.out.box)).trans S.out.box) (oc1 O s)
              go_simp; exact hK _ _ (Grow.refl _) hf.out
          · intro w1 hg Ar seen
            have e6 := seen.de 6 18
            have eg := seen.de 4 16
            by_cases hc0 : ((!(isT O.id)) : Bool) = true
            · have hc := hc0
              clear hc0
              rw [hc] at eg
              have hWi : (!(!(isT O.id))) = false := by rw [hc]; rfl
              exact does_off rfl (by kernel_rfl) eg ne_tf (Grow.refl _) (show undef = _ from (if_f hWi).symm)
            · have hc : ((!(isT O.id)) : Bool) = false := by rw [← Bool.not_eq_true]; exact hc0
              clear hc0
              rw [hc] at eg
              have hWi : (!(!(isT O.id))) = true := by rw [hc]; rfl
              refine does_on rfl (by kernel_rfl) eg fun K Q' hK => ?_
              clear eg
              replace e6 := e6.trans (congrArg some (if_t hWi))
              have hf : Hid ((.bool (O.typ != 2) : Value) = (if (!(!(isT O.id))) = true then .bool (O.typ != 2) else undef)) := (if_t hWi).symm
              clear hWi hc
              go_simp; exact hK _ _ (Grow.refl _) hf.out
          · intro w1 hg Ar seen
            have e7 := seen.de 7 19
            have eg := seen.de 4 16
            by_cases hc0 : ((!(isT O.id)) : Bool) = true
            · have hc := hc0
              clear hc0
              rw [hc] at eg
              have hWi : (!(!(isT O.id))) = false := by rw [hc]; rfl
              exact does_off rfl (by kernel_rfl) eg ne_tf (Grow.refl _) (show undef = _ from (if_f hWi).symm)
            · have hc : ((!(isT O.id)) : Bool) = false := by rw [← Bool.not_eq_true]; exact hc0
              clear hc0
              rw [hc] at eg
              have hWi : (!(!(isT O.id))) = true := by rw [hc]; rfl
              refine does_on rfl (by kernel_rfl) eg fun K Q' hK => ?_
              clear eg
              replace e7 := e7.trans (congrArg some (if_t hWi))
              have hf : Hid ((.bool (O.typ != 2) : Value) = (if (!(!(isT O.id))) = true then .bool (O.typ != 2) else undef)) := (if_t hWi).symm
              clear hWi hc
              go_simp; exact hK _ _ (Grow.refl _) hf.out
          · intro w1 hg Ar seen
            have s1 := seen.sl 1 (.pointer (some ⟨b, 0, none⟩))
            have eg := seen.de 8 20
            by_cases hw : ((!(!(isT O.id))) : Bool) = true
            · replace eg := eg.trans (congrArg some (if_t hw))
              by_cases hc0 : ((O.typ != 2) : Bool) = true
              · have hc := hc0
                clear hc0
                rw [hc] at eg
                have hWi : ((!(!(isT O.id))) && (O.typ != 2)) = true := by rw [hw, hc]; rfl
                refine does_on rfl (by kernel_rfl) eg fun K Q' hK => ?_
                clear eg
                have hf : Hid ((.pointer (some ⟨b, 1, none⟩) : Value) = (if ((!(!(isT O.id))) && (O.typ != 2)) = true then .pointer (some ⟨b, 1, none⟩) else undef)) := (if_t hWi).symm
                clear hWi hc hw
                go_simp; exact hK _ _ (Grow.refl _) hf.out
              · have hc : ((O.typ != 2) : Bool) = false := by rw [← Bool.not_eq_true]; exact hc0
                clear hc0
                rw [hc] at eg
                have hWi : ((!(!(isT O.id))) && (O.typ != 2)) = false := by rw [hw, hc]; rfl
                exact does_off rfl (by kernel_rfl) eg ne_ft (Grow.refl _) (show undef = _ from (if_f hWi).symm)
            · have hw : ((!(!(isT O.id))) : Bool) = false := by rw [← Bool.not_eq_true]; exact hw
              have hWi : ((!(!(isT O.id))) && (O.typ != 2)) = false := by rw [hw]; rfl
              exact does_off rfl (by kernel_rfl) (eg.trans (congrArg some (if_f hw))) (ne_un _) (Grow.refl _) (show undef = _ from (if_f hWi).symm)
          · intro w1 hg Ar seen
            have e9 := seen.de 9 21
            have eg := seen.de 8 20
            by_cases hw : ((!(!(isT O.id))) : Bool) = true
            · replace eg := eg.trans (congrArg some (if_t hw))
              by_cases hc0 : ((O.typ != 2) : Bool) = true
              · have hc := hc0
                clear hc0
                rw [hc] at eg
                have hWi : ((!(!(isT O.id))) && (O.typ != 2)) = true := by rw [hw, hc]; rfl
                refine does_on rfl (by kernel_rfl) eg fun K Q' hK => ?_
                clear eg
                replace e9 := e9.trans (congrArg some (if_t hWi))
                have hf : Hid ((.int .i64 O.typ : Value) = (if ((!(!(isT O.id))) && (O.typ != 2)) = true then .int .i64 O.typ else undef)) := (if_t hWi).symm
                clear hWi hc hw
                have hc0 := cell_of_block (j := 1) ((hg.block _ (block_lt S.out.box)).trans S.out.box) (oc1 O s)
                go_simp; exact hK _ _ (Grow.refl _) hf.out
              · have hc : ((O.typ != 2) : Bool) = false := by rw [← Bool.not_eq_true]; exact hc0
                clear hc0
                rw [hc] at eg
                have hWi : ((!(!(isT O.id))) && (O.typ != 2)) = false := by rw [hw, hc]; rfl
                exact does_off rfl (by kernel_rfl) eg ne_ft (Grow.refl _) (show undef = _ from (if_f hWi).symm)
            · have hw : ((!(!(isT O.id))) : Bool) = false := by rw [← Bool.not_eq_true]; exact hw
              have hWi : ((!(!(isT O.id))) && (O.typ != 2)) = false := by rw [hw]; rfl
              exact does_off rfl (by kernel_rfl) (eg.trans (congrArg some (if_f hw))) (ne_un _) (Grow.refl _) (show undef = _ from (if_f hWi).symm)
          · intro w1 hg Ar seen
            have e10 := seen.de 10 22
            have eg := seen.de 8 20
            by_cases hw : ((!(!(isT O.id))) : Bool) = true
            · replace eg := eg.trans (congrArg some (if_t hw))
              by_cases hc0 : ((O.typ != 2) : Bool) = true
              · have hc := hc0
                clear hc0
                rw [hc] at eg
                have hWi : ((!(!(isT O.id))) && (O.typ != 2)) = true := by rw [hw, hc]; rfl
                refine does_on rfl (by kernel_rfl) eg fun K Q' hK => ?_
                clear eg
                replace e10 := e10.trans (congrArg some (if_t hWi))
                have hf : Hid ((.bool (O.typ != 3) : Value) = (if ((!(!(isT O.id))) && (O.typ != 2)) = true then .bool (O.typ != 3) else undef)) := (if_t hWi).symm
                clear hWi hc hw
                go_simp; exact hK _ _ (Grow.refl _) hf.out
              · have hc : ((O.typ != 2) : Bool) = false := by rw [← Bool.not_eq_true]; exact hc0
                clear hc0
                rw [hc] at eg
                have hWi : ((!(!(isT O.id))) && (O.typ != 2)) = false := by rw [hw, hc]; rfl
                exact does_off rfl (by kernel_rfl) eg ne_ft (Grow.refl _) (show undef = _ from (if_f hWi).symm)
            · have hw : ((!(!(isT O.id))) : Bool) = false := by rw [← Bool.not_eq_true]; exact hw
              have hWi : ((!(!(isT O.id))) && (O.typ != 2)) = false := by rw [hw]; rfl
              exact does_off rfl (by kernel_rfl) (eg.trans (congrArg some (if_f hw))) (ne_un _) (Grow.refl _) (show undef = _ from (if_f hWi).symm)
          · intro w1 hg Ar seen
            have e8 := seen.de 8 20
            have e11 := seen.de 11 23
            have eg := seen.de 4 16
            by_cases hc0 : ((!(isT O.id)) : Bool) = true
            · have hc := hc0
              clear hc0
              rw [hc] at eg
              have hWi : (!(!(isT O.id))) = false := by rw [hc]; rfl
              exact does_off rfl (by kernel_rfl) eg ne_tf (Grow.refl _) (show undef = _ from (if_f hWi).symm)
            · have hc : ((!(isT O.id)) : Bool) = false := by rw [← Bool.not_eq_true]; exact hc0
              clear hc0
              rw [hc] at eg
              have hWi : (!(!(isT O.id))) = true := by rw [hc]; rfl
              refine does_on rfl (by kernel_rfl) eg fun K Q' hK => ?_
              clear eg
              replace e8 := e8.trans (congrArg some (if_t hWi))
              have hf : Hid ((.bool ((O.typ != 2) && (O.typ != 3)) : Value) = (if (!(!(isT O.id))) = true then .bool ((O.typ != 2) && (O.typ != 3)) else undef)) := (if_t hWi).symm
              by_cases hp0 : ((O.typ != 2) : Bool) = true
              · have hp := hp0
                clear hp0
                rw [hp] at e8
                replace e11 := e11.trans (congrArg some (if_t (by rw [hWi, hp]; rfl)))
                clear hf
                have hv := hid (by show (Value.bool (O.typ != 3)) = (if (!(!(isT O.id))) = true then .bool ((O.typ != 2) && (O.typ != 3)) else undef); rw [if_t hWi, hp]; rfl)
                clear hp
                clear hWi hc
                go_simp; exact hK _ _ (Grow.refl _) hv.out
              · have hp : ((O.typ != 2) : Bool) = false := by rw [← Bool.not_eq_true]; exact hp0
                clear hp0
                rw [hp] at e8
                clear e11
                clear hf
                have hv := hid (by show (Value.bool false) = (if (!(!(isT O.id))) = true then .bool ((O.typ != 2) && (O.typ != 3)) else undef); rw [if_t hWi, hp]; rfl)
                clear hp
                clear hWi hc
                go_simp; exact hK _ _ (Grow.refl _) hv.out
          · intro w1 hg Ar seen
            have e12 := seen.de 12 24
            have eg := seen.de 4 16
            by_cases hc0 : ((!(isT O.id)) : Bool) = true
            · have hc := hc0
              clear hc0
              rw [hc] at eg
              have hWi : (!(!(isT O.id))) = false := by rw [hc]; rfl
              exact does_off rfl (by kernel_rfl) eg ne_tf (Grow.refl _) (show undef = _ from (if_f hWi).symm)
            · have hc : ((!(isT O.id)) : Bool) = false := by rw [← Bool.not_eq_true]; exact hc0
              clear hc0
              rw [hc] at eg
              have hWi : (!(!(isT O.id))) = true := by rw [hc]; rfl
              refine does_on rfl (by kernel_rfl) eg fun K Q' hK => ?_
              clear eg
              replace e12 := e12.trans (congrArg some (if_t hWi))
              have hf : Hid ((.bool ((O.typ != 2) && (O.typ != 3)) : Value) = (if (!(!(isT O.id))) = true then .bool ((O.typ != 2) && (O.typ != 3)) else undef)) := (if_t hWi).symm
              clear hWi hc
              go_simp; exact hK _ _ (Grow.refl _) hf.out
          · intro w1 hg Ar seen
            have s1 := seen.sl 1 (.pointer (some ⟨b, 0, none⟩))
            have eg := seen.de 13 25
            by_cases hw : ((!(!(isT O.id))) : Bool) = true
            · replace eg := eg.trans (congrArg some (if_t hw))
              by_cases hc0 : (((O.typ != 2) && (O.typ != 3)) : Bool) = true
              · have hc := hc0
                clear hc0
                rw [hc] at eg
                have hWi : ((!(!(isT O.id))) && ((O.typ != 2) && (O.typ != 3))) = true := by rw [hw, hc]; rfl
                refine does_on rfl (by kernel_rfl) eg fun K Q' hK => ?_
                clear eg
                have hf : Hid ((.pointer (some ⟨b, 1, none⟩) : Value) = (if ((!(!(isT O.id))) && ((O.typ != 2) && (O.typ != 3))) = true then .pointer (some ⟨b, 1, none⟩) else undef)) := (if_t hWi).symm
                clear hWi hc hw
                go_simp; exact hK _ _ (Grow.refl _) hf.out
              · have hc : (((O.typ != 2) && (O.typ != 3)) : Bool) = false := by rw [← Bool.not_eq_true]; exact hc0
                clear hc0
                rw [hc] at eg
                have hWi : ((!(!(isT O.id))) && ((O.typ != 2) && (O.typ != 3))) = false := by rw [hw, hc]; rfl
                exact does_off rfl (by kernel_rfl) eg ne_ft (Grow.refl _) (show undef = _ from (if_f hWi).symm)
            · have hw : ((!(!(isT O.id))) : Bool) = false := by rw [← Bool.not_eq_true]; exact hw
              have hWi : ((!(!(isT O.id))) && ((O.typ != 2) && (O.typ != 3))) = false := by rw [hw]; rfl
              exact does_off rfl (by kernel_rfl) (eg.trans (congrArg some (if_f hw))) (ne_un _) (Grow.refl _) (show undef = _ from (if_f hWi).symm)
          · intro w1 hg Ar seen
            have e14 := seen.de 14 26
            have eg := seen.de 13 25
            by_cases hw : ((!(!(isT O.id))) : Bool) = true
            · replace eg := eg.trans (congrArg some (if_t hw))
              by_cases hc0 : (((O.typ != 2) && (O.typ != 3)) : Bool) = true
              · have hc := hc0
                clear hc0
                rw [hc] at eg
                have hWi : ((!(!(isT O.id))) && ((O.typ != 2) && (O.typ != 3))) = true := by rw [hw, hc]; rfl
                refine does_on rfl (by kernel_rfl) eg fun K Q' hK => ?_
                clear eg
                replace e14 := e14.trans (congrArg some (if_t hWi))
                have hf : Hid ((.int .i64 O.typ : Value) = (if ((!(!(isT O.id))) && ((O.typ != 2) && (O.typ != 3))) = true then .int .i64 O.typ else undef)) := (if_t hWi).symm
                clear hWi hc hw
                have hc0 := cell_of_block (j := 1) ((hg.block _ (block_lt S.out.box)).trans S.out.box) (oc1 O s)
                go_simp; exact hK _ _ (Grow.refl _) hf.out
              · have hc : (((O.typ != 2) && (O.typ != 3)) : Bool) = false := by rw [← Bool.not_eq_true]; exact hc0
                clear hc0
                rw [hc] at eg
                have hWi : ((!(!(isT O.id))) && ((O.typ != 2) && (O.typ != 3))) = false := by rw [hw, hc]; rfl
                exact does_off rfl (by kernel_rfl) eg ne_ft (Grow.refl _) (show undef = _ from (if_f hWi).symm)
            · have hw : ((!(!(isT O.id))) : Bool) = false := by rw [← Bool.not_eq_true]; exact hw
              have hWi : ((!(!(isT O.id))) && ((O.typ != 2) && (O.typ != 3))) = false := by rw [hw]; rfl
              exact does_off rfl (by kernel_rfl) (eg.trans (congrArg some (if_f hw))) (ne_un _) (Grow.refl _) (show undef = _ from (if_f hWi).symm)
          · intro w1 hg Ar seen
            have e15 := seen.de 15 27
            have eg := seen.de 13 25
            by_cases hw : ((!(!(isT O.id))) : Bool) = true
            · replace eg := eg.trans (congrArg some (if_t hw))
              by_cases hc0 : (((O.typ != 2) && (O.typ != 3)) : Bool) = true
              · have hc := hc0
                clear hc0
                rw [hc] at eg
                have hWi : ((!(!(isT O.id))) && ((O.typ != 2) && (O.typ != 3))) = true := by rw [hw, hc]; rfl
                refine does_on rfl (by kernel_rfl) eg fun K Q' hK => ?_
                clear eg
                replace e15 := e15.trans (congrArg some (if_t hWi))
                have hf : Hid ((.bool (O.typ != 4) : Value) = (if ((!(!(isT O.id))) && ((O.typ != 2) && (O.typ != 3))) = true then .bool (O.typ != 4) else undef)) := (if_t hWi).symm
                clear hWi hc hw
                go_simp; exact hK _ _ (Grow.refl _) hf.out
              · have hc : (((O.typ != 2) && (O.typ != 3)) : Bool) = false := by rw [← Bool.not_eq_true]; exact hc0
                clear hc0
                rw [hc] at eg
                have hWi : ((!(!(isT O.id))) && ((O.typ != 2) && (O.typ != 3))) = false := by rw [hw, hc]; rfl
                exact does_off rfl (by kernel_rfl) eg ne_ft (Grow.refl _) (show undef = _ from (if_f hWi).symm)
            · have hw : ((!(!(isT O.id))) : Bool) = false := by rw [← Bool.not_eq_true]; exact hw
              have hWi : ((!(!(isT O.id))) && ((O.typ != 2) && (O.typ != 3))) = false := by rw [hw]; rfl
              exact does_off rfl (by kernel_rfl) (eg.trans (congrArg some (if_f hw))) (ne_un _) (Grow.refl _) (show undef = _ from (if_f hWi).symm)
          · intro w1 hg Ar seen
            have e13 := seen.de 13 25
            have e16 := seen.de 16 28
            have eg := seen.de 4 16
            by_cases hc0 : ((!(isT O.id)) : Bool) = true
            · have hc := hc0
              clear hc0
              rw [hc] at eg
              have hWi : (!(!(isT O.id))) = false := by rw [hc]; rfl
              exact does_off rfl (by kernel_rfl) eg ne_tf (Grow.refl _) (show undef = _ from (if_f hWi).symm)
            · have hc : ((!(isT O.id)) : Bool) = false := by rw [← Bool.not_eq_true]; exact hc0
              clear hc0
              rw [hc] at eg
              have hWi : (!(!(isT O.id))) = true := by rw [hc]; rfl
              refine does_on rfl (by kernel_rfl) eg fun K Q' hK => ?_
              clear eg
              replace e13 := e13.trans (congrArg some (if_t hWi))
              have hf : Hid ((.bool (((O.typ != 2) && (O.typ != 3)) && (O.typ != 4)) : Value) = (if (!(!(isT O.id))) = true then .bool (((O.typ != 2) && (O.typ != 3)) && (O.typ != 4)) else undef)) := (if_t hWi).symm
              by_cases hp0 : (((O.typ != 2) && (O.typ != 3)) : Bool) = true
              · have hp := hp0
                clear hp0
                rw [hp] at e13
                replace e16 := e16.trans (congrArg some (if_t (by rw [hWi, hp]; rfl)))
                clear hf
                have hv := hid (by show (Value.bool (O.typ != 4)) = (if (!(!(isT O.id))) = true then .bool (((O.typ != 2) && (O.typ != 3)) && (O.typ != 4)) else undef); rw [if_t hWi, hp]; rfl)
                clear hp
                clear hWi hc
                go_simp; exact hK _ _ (Grow.refl _) hv.out
              · have hp : (((O.typ != 2) && (O.typ != 3)) : Bool) = false := by rw [← Bool.not_eq_true]; exact hp0
                clear hp0
                rw [hp] at e13
                clear e16
                clear hf
                have hv := hid (by show (Value.bool false) = (if (!(!(isT O.id))) = true then .bool (((O.typ != 2) && (O.typ != 3)) && (O.typ != 4)) else undef); rw [if_t hWi, hp]; rfl)
                clear hp
                clear hWi hc
                go_simp; exact hK _ _ (Grow.refl _) hv.out
          · intro w1 hg Ar seen
            have e17 := seen.de 17 29
            have eg := seen.de 4 16
            by_cases hc0 : ((!(isT O.id)) : Bool) = true
            · have hc := hc0
              clear hc0
              rw [hc] at eg
              have hWi : (!(!(isT O.id))) = false := by rw [hc]; rfl
              exact does_off rfl (by kernel_rfl) eg ne_tf (Grow.refl _) (show undef = _ from (if_f hWi).symm)
            · have hc : ((!(isT O.id)) : Bool) = false := by rw [← Bool.not_eq_true]; exact hc0
              clear hc0
              rw [hc] at eg
              have hWi : (!(!(isT O.id))) = true := by rw [hc]; rfl
              refine does_on rfl (by kernel_rfl) eg fun K Q' hK => ?_
              clear eg
              replace e17 := e17.trans (congrArg some (if_t hWi))
              have hf : Hid ((.bool (((O.typ != 2) && (O.typ != 3)) && (O.typ != 4)) : Value) = (if (!(!(isT O.id))) = true then .bool (((O.typ != 2) && (O.typ != 3)) && (O.typ != 4)) else undef)) := (if_t hWi).symm
              clear hWi hc
              go_simp; exact hK _ _ (Grow.refl _) hf.out
          · intro w1 hg Ar seen
            have s1 := seen.sl 1 (.pointer (some ⟨b, 0, none⟩))
            have eg := seen.de 18 30
            by_cases hw : ((!(!(isT O.id))) : Bool) = true
            · replace eg := eg.trans (congrArg some (if_t hw))
              by_cases hc0 : ((((O.typ != 2) && (O.typ != 3)) && (O.typ != 4)) : Bool) = true
              · have hc := hc0
                clear hc0
                rw [hc] at eg
                have hWi : ((!(!(isT O.id))) && (((O.typ != 2) && (O.typ != 3)) && (O.typ != 4))) = true := by rw [hw, hc]; rfl
                refine does_on rfl (by kernel_rfl) eg fun K Q' hK => ?_
                clear eg
                have hf : Hid ((.pointer (some ⟨b, 1, none⟩) : Value) = (if ((!(!(isT O.id))) && (((O.typ != 2) && (O.typ != 3)) && (O.typ != 4))) = true then .pointer (some ⟨b, 1, none⟩) else undef)) := (if_t hWi).symm
                clear hWi hc hw
                go_simp; exact hK _ _ (Grow.refl _) hf.out
              · have hc : ((((O.typ != 2) && (O.typ != 3)) && (O.typ != 4)) : Bool) = false := by rw [← Bool.not_eq_true]; exact hc0
                clear hc0
                rw [hc] at eg
                have hWi : ((!(!(isT O.id))) && (((O.typ != 2) && (O.typ != 3)) && (O.typ != 4))) = false := by rw [hw, hc]; rfl
                exact does_off rfl (by kernel_rfl) eg ne_ft (Grow.refl _) (show undef = _ from (if_f hWi).symm)
            · have hw : ((!(!(isT O.id))) : Bool) = false := by rw [← Bool.not_eq_true]; exact hw
              have hWi : ((!(!(isT O.id))) && (((O.typ != 2) && (O.typ != 3)) && (O.typ != 4))) = false := by rw [hw]; rfl
              exact does_off rfl (by kernel_rfl) (eg.trans (congrArg some (if_f hw))) (ne_un _) (Grow.refl _) (show undef = _ from (if_f hWi).symm)
          · intro w1 hg Ar seen
            have e19 := seen.de 19 31
            have eg := seen.de 18 30
            by_cases hw : ((!(!(isT O.id))) : Bool) = true
            · replace eg := eg.trans (congrArg some (if_t hw))
              by_cases hc0 : ((((O.typ != 2) && (O.typ != 3)) && (O.typ != 4)) : Bool) = true
              · have hc := hc0
                clear hc0
                rw [hc] at eg
                have hWi : ((!(!(isT O.id))) && (((O.typ != 2) && (O.typ != 3)) && (O.typ != 4))) = true := by rw [hw, hc]; rfl
                refine does_on rfl (by kernel_rfl) eg fun K Q' hK => ?_
                clear eg
                replace e19 := e19.trans (congrArg some (if_t hWi))
                have hf : Hid ((.int .i64 O.typ : Value) = (if ((!(!(isT O.id))) && (((O.typ != 2) && (O.typ != 3)) && (O.typ != 4))) = true then .int .i64 O.typ else undef)) := (if_t hWi).symm
                clear hWi hc hw
                have hc0 := cell_of_block (j := 1) ((hg.block _ (block_lt S.out.box)).trans S.out.box) (oc1 O s)
                go_simp; exact hK _ _ (Grow.refl _) hf.out
              · have hc : ((((O.typ != 2) && (O.typ != 3)) && (O.typ != 4)) : Bool) = false := by rw [← Bool.not_eq_true]; exact hc0
                clear hc0
                rw [hc] at eg
                have hWi : ((!(!(isT O.id))) && (((O.typ != 2) && (O.typ != 3)) && (O.typ != 4))) = false := by rw [hw, hc]; rfl
                exact does_off rfl (by kernel_rfl) eg ne_ft (Grow.refl _) (show undef = _ from (if_f hWi).symm)
            · have hw : ((!(!(isT O.id))) : Bool) = false := by rw [← Bool.not_eq_true]; exact hw
              have hWi : ((!(!(isT O.id))) && (((O.typ != 2) && (O.typ != 3)) && (O.typ != 4))) = false := by rw [hw]; rfl
              exact does_off rfl (by kernel_rfl) (eg.trans (congrArg some (if_f hw))) (ne_un _) (Grow.refl _) (show undef = _ from (if_f hWi).symm)
          · intro w1 hg Ar seen
            have e20 := seen.de 20 32
            have eg := seen.de 18 30
            by_cases hw : ((!(!(isT O.id))) : Bool) = true
            · replace eg := eg.trans (congrArg some (if_t hw))
              by_cases hc0 : ((((O.typ != 2) && (O.typ != 3)) && (O.typ != 4)) : Bool) = true
              · have hc := hc0
                clear hc0
                rw [hc] at eg
                have hWi : ((!(!(isT O.id))) && (((O.typ != 2) && (O.typ != 3)) && (O.typ != 4))) = true := by rw [hw, hc]; rfl
                refine does_on rfl (by kernel_rfl) eg fun K Q' hK => ?_
                clear eg
                replace e20 := e20.trans (congrArg some (if_t hWi))
                have hf : Hid ((.bool (O.typ != 7) : Value) = (if ((!(!(isT O.id))) && (((O.typ != 2) && (O.typ != 3)) && (O.typ != 4))) = true then .bool (O.typ != 7) else undef)) := (if_t hWi).symm
                clear hWi hc hw
                go_simp; exact hK _ _ (Grow.refl _) hf.out
              · have hc : ((((O.typ != 2) && (O.typ != 3)) && (O.typ != 4)) : Bool) = false := by rw [← Bool.not_eq_true]; exact hc0
                clear hc0
                rw [hc] at eg
                have hWi : ((!(!(isT O.id))) && (((O.typ != 2) && (O.typ != 3)) && (O.typ != 4))) = false := by rw [hw, hc]; rfl
                exact does_off rfl (by kernel_rfl) eg ne_ft (Grow.refl _) (show undef = _ from (if_f hWi).symm)
            · have hw : ((!(!(isT O.id))) : Bool) = false := by rw [← Bool.not_eq_true]; exact hw
              have hWi : ((!(!(isT O.id))) && (((O.typ != 2) && (O.typ != 3)) && (O.typ != 4))) = false := by rw [hw]; rfl
              exact does_off rfl (by kernel_rfl) (eg.trans (congrArg some (if_f hw))) (ne_un _) (Grow.refl _) (show undef = _ from (if_f hWi).symm)
          · intro w1 hg Ar seen
            have e18 := seen.de 18 30
            have e21 := seen.de 21 33
            have eg := seen.de 4 16
            by_cases hc0 : ((!(isT O.id)) : Bool) = true
            · have hc := hc0
              clear hc0
              rw [hc] at eg
              have hWi : (!(!(isT O.id))) = false := by rw [hc]; rfl
              exact does_off rfl (by kernel_rfl) eg ne_tf (Grow.refl _) (show undef = _ from (if_f hWi).symm)
            · have hc : ((!(isT O.id)) : Bool) = false := by rw [← Bool.not_eq_true]; exact hc0
              clear hc0
              rw [hc] at eg
              have hWi : (!(!(isT O.id))) = true := by rw [hc]; rfl
              refine does_on rfl (by kernel_rfl) eg fun K Q' hK => ?_
              clear eg
              replace e18 := e18.trans (congrArg some (if_t hWi))
              have hf : Hid ((.bool ((((O.typ != 2) && (O.typ != 3)) && (O.typ != 4)) && (O.typ != 7)) : Value) = (if (!(!(isT O.id))) = true then .bool ((((O.typ != 2) && (O.typ != 3)) && (O.typ != 4)) && (O.typ != 7)) else undef)) := (if_t hWi).symm
              by_cases hp0 : ((((O.typ != 2) && (O.typ != 3)) && (O.typ != 4)) : Bool) = true
              · have hp := hp0
                clear hp0
                rw [hp] at e18
                replace e21 := e21.trans (congrArg some (if_t (by rw [hWi, hp]; rfl)))
                clear hf
                have hv := hid (by show (Value.bool (O.typ != 7)) = (if (!(!(isT O.id))) = true then .bool ((((O.typ != 2) && (O.typ != 3)) && (O.typ != 4)) && (O.typ != 7)) else undef); rw [if_t hWi, hp]; rfl)
                clear hp
                clear hWi hc
                go_simp; exact hK _ _ (Grow.refl _) hv.out
              · have hp : ((((O.typ != 2) && (O.typ != 3)) && (O.typ != 4)) : Bool) = false := by rw [← Bool.not_eq_true]; exact hp0
                clear hp0
                rw [hp] at e18
                clear e21
                clear hf
                have hv := hid (by show (Value.bool false) = (if (!(!(isT O.id))) = true then .bool ((((O.typ != 2) && (O.typ != 3)) && (O.typ != 4)) && (O.typ != 7)) else undef); rw [if_t hWi, hp]; rfl)
                clear hp
                clear hWi hc
                go_simp; exact hK _ _ (Grow.refl _) hv.out
          · intro w1 hg Ar seen
            have e4 := seen.de 4 16
            have e22 := seen.de 22 34
            refine does_plain rfl fun K Q' hK => ?_
            by_cases hp0 : ((!(isT O.id)) : Bool) = true
            · have hp := hp0
              clear hp0
              rw [hp] at e4
              clear e22
              have hv := hid (by show (Value.bool true) = .bool ((!(isT O.id)) || ((((O.typ != 2) && (O.typ != 3)) && (O.typ != 4)) && (O.typ != 7))); rw [hp]; rfl)
              clear hp
              go_simp; exact hK _ _ (Grow.refl _) hv.out
            · have hp : ((!(isT O.id)) : Bool) = false := by rw [← Bool.not_eq_true]; exact hp0
              clear hp0
              rw [hp] at e4
              replace e22 := e22.trans (congrArg some (if_t (by rw [hp]; rfl)))
              have hv := hid (by show (Value.bool ((((O.typ != 2) && (O.typ != 3)) && (O.typ != 4)) && (O.typ != 7))) = .bool ((!(isT O.id)) || ((((O.typ != 2) && (O.typ != 3)) && (O.typ != 4)) && (O.typ != 7))); rw [hp]; rfl)
              clear hp
              go_simp; exact hK _ _ (Grow.refl _) hv.out
          · intro w1 hg Ar seen
            have e23 := seen.de 23 35
            refine does_plain rfl fun K Q' hK => ?_
            go_simp; exact hK _ _ (Grow.refl _) rfl
          · intro w1 hg Ar seen
            have s1 := seen.sl 1 (.pointer (some ⟨b, 0, none⟩))
            have eg := seen.de 24 36
            by_cases hc0 : (((!(isT O.id)) || ((((O.typ != 2) && (O.typ != 3)) && (O.typ != 4)) && (O.typ != 7))) : Bool) = true
            · have hc := hc0
              clear hc0
              rw [hc] at eg
              have hWi : (!((!(isT O.id)) || ((((O.typ != 2) && (O.typ != 3)) && (O.typ != 4)) && (O.typ != 7)))) = false := by rw [hc]; rfl
              exact does_off rfl (by kernel_rfl) eg ne_tf (Grow.refl _) (show undef = _ from (if_f hWi).symm)
            · have hc : (((!(isT O.id)) || ((((O.typ != 2) && (O.typ != 3)) && (O.typ != 4)) && (O.typ != 7))) : Bool) = false := by rw [← Bool.not_eq_true]; exact hc0
              clear hc0
              rw [hc] at eg
              have hWi : (!((!(isT O.id)) || ((((O.typ != 2) && (O.typ != 3)) && (O.typ != 4)) && (O.typ != 7)))) = true := by rw [hc]; rfl
              refine does_on rfl (by kernel_rfl) eg fun K Q' hK => ?_
              clear eg
              have hf : Hid ((.pointer (some ⟨b, 2, none⟩) : Value) = (if (!((!(isT O.id)) || ((((O.typ != 2) && (O.typ != 3)) && (O.typ != 4)) && (O.typ != 7)))) = true then .pointer (some ⟨b, 2, none⟩) else undef)) := (if_t hWi).symm
              clear hWi hc
              go_simp; exact hK _ _ (Grow.refl _) hf.out
          · intro w1 hg Ar seen
            have e25 := seen.de 25 37
            have eg := seen.de 24 36
            by_cases hc0 : (((!(isT O.id)) || ((((O.typ != 2) && (O.typ != 3)) && (O.typ != 4)) && (O.typ != 7))) : Bool) = true
            · have hc := hc0
              clear hc0
              rw [hc] at eg
              have hWi : (!((!(isT O.id)) || ((((O.typ != 2) && (O.typ != 3)) && (O.typ != 4)) && (O.typ != 7)))) = false := by rw [hc]; rfl
              exact does_off rfl (by kernel_rfl) eg ne_tf (Grow.refl _) (show undef = _ from (if_f hWi).symm)
            · have hc : (((!(isT O.id)) || ((((O.typ != 2) && (O.typ != 3)) && (O.typ != 4)) && (O.typ != 7))) : Bool) = false := by rw [← Bool.not_eq_true]; exact hc0
              clear hc0
              rw [hc] at eg
              have hWi : (!((!(isT O.id)) || ((((O.typ != 2) && (O.typ != 3)) && (O.typ != 4)) && (O.typ != 7)))) = true := by rw [hc]; rfl
              refine does_on rfl (by kernel_rfl) eg fun K Q' hK => ?_
              clear eg
              replace e25 := e25.trans (congrArg some (if_t hWi))
              have hf : Hid ((.int .i64 O.alg : Value) = (if (!((!(isT O.id)) || ((((O.typ != 2) && (O.typ != 3)) && (O.typ != 4)) && (O.typ != 7)))) = true then .int .i64 O.alg else undef)) := (if_t hWi).symm
              clear hWi hc
              have hc0 := cell_of_block (j := 2) ((hg.block _ (block_lt S.out.box)).trans S.out.box) (oc2 O s)
              go_simp; exact hK _ _ (Grow.refl _) hf.out
          · intro w1 hg Ar seen
            have e26 := seen.de 26 38
            have eg := seen.de 24 36
            by_cases hc0 : (((!(isT O.id)) || ((((O.typ != 2) && (O.typ != 3)) && (O.typ != 4)) && (O.typ != 7))) : Bool) = true
            · have hc := hc0
              clear hc0
              rw [hc] at eg
              have hWi : (!((!(isT O.id)) || ((((O.typ != 2) && (O.typ != 3)) && (O.typ != 4)) && (O.typ != 7)))) = false := by rw [hc]; rfl
              exact does_off rfl (by kernel_rfl) eg ne_tf (Grow.refl _) (show undef = _ from (if_f hWi).symm)
            · have hc : (((!(isT O.id)) || ((((O.typ != 2) && (O.typ != 3)) && (O.typ != 4)) && (O.typ != 7))) : Bool) = false := by rw [← Bool.not_eq_true]; exact hc0
              clear hc0
              rw [hc] at eg
              have hWi : (!((!(isT O.id)) || ((((O.typ != 2) && (O.typ != 3)) && (O.typ != 4)) && (O.typ != 7)))) = true := by rw [hc]; rfl
              refine does_on rfl (by kernel_rfl) eg fun K Q' hK => ?_
              clear eg
              replace e26 := e26.trans (congrArg some (if_t hWi))
              have hf : Hid ((.bool (decide (O.alg < 0)) : Value) = (if (!((!(isT O.id)) || ((((O.typ != 2) && (O.typ != 3)) && (O.typ != 4)) && (O.typ != 7)))) = true then .bool (decide (O.alg < 0)) else undef)) := (if_t hWi).symm
              clear hWi hc
              go_simp; exact hK _ _ (Grow.refl _) hf.out
          · intro w1 hg Ar seen
            have e24 := seen.de 24 36
            have e27 := seen.de 27 39
            refine does_plain rfl fun K Q' hK => ?_
            by_cases hp0 : (((!(isT O.id)) || ((((O.typ != 2) && (O.typ != 3)) && (O.typ != 4)) && (O.typ != 7))) : Bool) = true
            · have hp := hp0
              clear hp0
              rw [hp] at e24
              clear e27
              have hv := hid (by show (Value.bool true) = .bool (((!(isT O.id)) || ((((O.typ != 2) && (O.typ != 3)) && (O.typ != 4)) && (O.typ != 7))) || (decide (O.alg < 0))); rw [hp]; rfl)
              clear hp
              go_simp; exact hK _ _ (Grow.refl _) hv.out
            · have hp : (((!(isT O.id)) || ((((O.typ != 2) && (O.typ != 3)) && (O.typ != 4)) && (O.typ != 7))) : Bool) = false := by rw [← Bool.not_eq_true]; exact hp0
              clear hp0
              rw [hp] at e24
              replace e27 := e27.trans (congrArg some (if_t (by rw [hp]; rfl)))
              have hv := hid (by show (Value.bool (decide (O.alg < 0))) = .bool (((!(isT O.id)) || ((((O.typ != 2) && (O.typ != 3)) && (O.typ != 4)) && (O.typ != 7))) || (decide (O.alg < 0))); rw [hp]; rfl)
              clear hp
              go_simp; exact hK _ _ (Grow.refl _) hv.out
          · intro w1 hg Ar seen
            have e28 := seen.de 28 40
            refine does_plain rfl fun K Q' hK => ?_
            go_simp; exact hK _ _ (Grow.refl _) rfl
          · intro w1 hg Ar seen
            have s1 := seen.sl 1 (.pointer (some ⟨b, 0, none⟩))
            have eg := seen.de 29 41
            by_cases hc0 : ((((!(isT O.id)) || ((((O.typ != 2) && (O.typ != 3)) && (O.typ != 4)) && (O.typ != 7))) || (decide (O.alg < 0))) : Bool) = true
            · have hc := hc0
              clear hc0
              rw [hc] at eg
              have hWi : (!(((!(isT O.id)) || ((((O.typ != 2) && (O.typ != 3)) && (O.typ != 4)) && (O.typ != 7))) || (decide (O.alg < 0)))) = false := by rw [hc]; rfl
              exact does_off rfl (by kernel_rfl) eg ne_tf (Grow.refl _) (show undef = _ from (if_f hWi).symm)
            · have hc : ((((!(isT O.id)) || ((((O.typ != 2) && (O.typ != 3)) && (O.typ != 4)) && (O.typ != 7))) || (decide (O.alg < 0))) : Bool) = false := by rw [← Bool.not_eq_true]; exact hc0
              clear hc0
              rw [hc] at eg
              have hWi : (!(((!(isT O.id)) || ((((O.typ != 2) && (O.typ != 3)) && (O.typ != 4)) && (O.typ != 7))) || (decide (O.alg < 0)))) = true := by rw [hc]; rfl
              refine does_on rfl (by kernel_rfl) eg fun K Q' hK => ?_
              clear eg
              have hf : Hid ((.pointer (some ⟨b, 2, none⟩) : Value) = (if (!(((!(isT O.id)) || ((((O.typ != 2) && (O.typ != 3)) && (O.typ != 4)) && (O.typ != 7))) || (decide (O.alg < 0)))) = true then .pointer (some ⟨b, 2, none⟩) else undef)) := (if_t hWi).symm
              clear hWi hc
              go_simp; exact hK _ _ (Grow.refl _) hf.out
          · intro w1 hg Ar seen
            have e30 := seen.de 30 42
            have eg := seen.de 29 41
            by_cases hc0 : ((((!(isT O.id)) || ((((O.typ != 2) && (O.typ != 3)) && (O.typ != 4)) && (O.typ != 7))) || (decide (O.alg < 0))) : Bool) = true
            · have hc := hc0
              clear hc0
              rw [hc] at eg
              have hWi : (!(((!(isT O.id)) || ((((O.typ != 2) && (O.typ != 3)) && (O.typ != 4)) && (O.typ != 7))) || (decide (O.alg < 0)))) = false := by rw [hc]; rfl
              exact does_off rfl (by kernel_rfl) eg ne_tf (Grow.refl _) (show undef = _ from (if_f hWi).symm)
            · have hc : ((((!(isT O.id)) || ((((O.typ != 2) && (O.typ != 3)) && (O.typ != 4)) && (O.typ != 7))) || (decide (O.alg < 0))) : Bool) = false := by rw [← Bool.not_eq_true]; exact hc0
              clear hc0
              rw [hc] at eg
              have hWi : (!(((!(isT O.id)) || ((((O.typ != 2) && (O.typ != 3)) && (O.typ != 4)) && (O.typ != 7))) || (decide (O.alg < 0)))) = true := by rw [hc]; rfl
              refine does_on rfl (by kernel_rfl) eg fun K Q' hK => ?_
              clear eg
              replace e30 := e30.trans (congrArg some (if_t hWi))
              have hf : Hid ((.int .i64 O.alg : Value) = (if (!(((!(isT O.id)) || ((((O.typ != 2) && (O.typ != 3)) && (O.typ != 4)) && (O.typ != 7))) || (decide (O.alg < 0)))) = true then .int .i64 O.alg else undef)) := (if_t hWi).symm
              clear hWi hc
              have hc0 := cell_of_block (j := 2) ((hg.block _ (block_lt S.out.box)).trans S.out.box) (oc2 O s)
              go_simp; exact hK _ _ (Grow.refl _) hf.out
          · intro w1 hg Ar seen
            have e31 := seen.de 31 43
            have eg := seen.de 29 41
            by_cases hc0 : ((((!(isT O.id)) || ((((O.typ != 2) && (O.typ != 3)) && (O.typ != 4)) && (O.typ != 7))) || (decide (O.alg < 0))) : Bool) = true
            · have hc := hc0
              clear hc0
              rw [hc] at eg
              have hWi : (!(((!(isT O.id)) || ((((O.typ != 2) && (O.typ != 3)) && (O.typ != 4)) && (O.typ != 7))) || (decide (O.alg < 0)))) = false := by rw [hc]; rfl
              exact does_off rfl (by kernel_rfl) eg ne_tf (Grow.refl _) (show undef = _ from (if_f hWi).symm)
            · have hc : ((((!(isT O.id)) || ((((O.typ != 2) && (O.typ != 3)) && (O.typ != 4)) && (O.typ != 7))) || (decide (O.alg < 0))) : Bool) = false := by rw [← Bool.not_eq_true]; exact hc0
              clear hc0
              rw [hc] at eg
              have hWi : (!(((!(isT O.id)) || ((((O.typ != 2) && (O.typ != 3)) && (O.typ != 4)) && (O.typ != 7))) || (decide (O.alg < 0)))) = true := by rw [hc]; rfl
              refine does_on rfl (by kernel_rfl) eg fun K Q' hK => ?_
              clear eg
              replace e31 := e31.trans (congrArg some (if_t hWi))
              have hf : Hid ((.bool (decide (100 < O.alg)) : Value) = (if (!(((!(isT O.id)) || ((((O.typ != 2) && (O.typ != 3)) && (O.typ != 4)) && (O.typ != 7))) || (decide (O.alg < 0)))) = true then .bool (decide (100 < O.alg)) else undef)) := (if_t hWi).symm
              clear hWi hc
              go_simp; exact hK _ _ (Grow.refl _) hf.out
          · intro w1 hg Ar seen
            have e29 := seen.de 29 41
            have e32 := seen.de 32 44
            refine does_plain rfl fun K Q' hK => ?_
            by_cases hp0 : ((((!(isT O.id)) || ((((O.typ != 2) && (O.typ != 3)) && (O.typ != 4)) && (O.typ != 7))) || (decide (O.alg < 0))) : Bool) = true
            · have hp := hp0
              clear hp0
              rw [hp] at e29
              clear e32
              have hv := hid (by show (Value.bool true) = .bool ((((!(isT O.id)) || ((((O.typ != 2) && (O.typ != 3)) && (O.typ != 4)) && (O.typ != 7))) || (decide (O.alg < 0))) || (decide (100 < O.alg))); rw [hp]; rfl)
              clear hp
              go_simp; exact hK _ _ (Grow.refl _) hv.out
            · have hp : ((((!(isT O.id)) || ((((O.typ != 2) && (O.typ != 3)) && (O.typ != 4)) && (O.typ != 7))) || (decide (O.alg < 0))) : Bool) = false := by rw [← Bool.not_eq_true]; exact hp0
              clear hp0
              rw [hp] at e29
              replace e32 := e32.trans (congrArg some (if_t (by rw [hp]; rfl)))
              have hv := hid (by show (Value.bool (decide (100 < O.alg))) = .bool ((((!(isT O.id)) || ((((O.typ != 2) && (O.typ != 3)) && (O.typ != 4)) && (O.typ != 7))) || (decide (O.alg < 0))) || (decide (100 < O.alg))); rw [hp]; rfl)
              clear hp
              go_simp; exact hK _ _ (Grow.refl _) hv.out
          · intro w1 hg Ar seen
            have e33 := seen.de 33 45
            refine does_plain rfl fun K Q' hK => ?_
            go_simp; exact hK _ _ (Grow.refl _) rfl
          · intro w1 hg Ar seen
            have s1 := seen.sl 1 (.pointer (some ⟨b, 0, none⟩))
            have eg := seen.de 34 46
            by_cases hc0 : (((((!(isT O.id)) || ((((O.typ != 2) && (O.typ != 3)) && (O.typ != 4)) && (O.typ != 7))) || (decide (O.alg < 0))) || (decide (100 < O.alg))) : Bool) = true
            · have hc := hc0
              clear hc0
              rw [hc] at eg
              have hWi : (!((((!(isT O.id)) || ((((O.typ != 2) && (O.typ != 3)) && (O.typ != 4)) && (O.typ != 7))) || (decide (O.alg < 0))) || (decide (100 < O.alg)))) = false := by rw [hc]; rfl
              exact does_off rfl (by kernel_rfl) eg ne_tf (Grow.refl _) (show undef = _ from (if_f hWi).symm)
            · have hc : (((((!(isT O.id)) || ((((O.typ != 2) && (O.typ != 3)) && (O.typ != 4)) && (O.typ != 7))) || (decide (O.alg < 0))) || (decide (100 < O.alg))) : Bool) = false := by rw [← Bool.not_eq_true]; exact hc0
              clear hc0
              rw [hc] at eg
              have hWi : (!((((!(isT O.id)) || ((((O.typ != 2) && (O.typ != 3)) && (O.typ != 4)) && (O.typ != 7))) || (decide (O.alg < 0))) || (decide (100 < O.alg)))) = true := by rw [hc]; rfl
              refine does_on rfl (by kernel_rfl) eg fun K Q' hK => ?_
              clear eg
              have hf : Hid ((.pointer (some ⟨b, 3, none⟩) : Value) = (if (!((((!(isT O.id)) || ((((O.typ != 2) && (O.typ != 3)) && (O.typ != 4)) && (O.typ != 7))) || (decide (O.alg < 0))) || (decide (100 < O.alg)))) = true then .pointer (some ⟨b, 3, none⟩) else undef)) := (if_t hWi).symm
              clear hWi hc
              go_simp; exact hK _ _ (Grow.refl _) hf.out
          · intro w1 hg Ar seen
            have e35 := seen.de 35 47
            have eg := seen.de 34 46
            by_cases hc0 : (((((!(isT O.id)) || ((((O.typ != 2) && (O.typ != 3)) && (O.typ != 4)) && (O.typ != 7))) || (decide (O.alg < 0))) || (decide (100 < O.alg))) : Bool) = true
            · have hc := hc0
              clear hc0
              rw [hc] at eg
              have hWi : (!((((!(isT O.id)) || ((((O.typ != 2) && (O.typ != 3)) && (O.typ != 4)) && (O.typ != 7))) || (decide (O.alg < 0))) || (decide (100 < O.alg)))) = false := by rw [hc]; rfl
              exact does_off rfl (by kernel_rfl) eg ne_tf (Grow.refl _) (show undef = _ from (if_f hWi).symm)
            · have hc : (((((!(isT O.id)) || ((((O.typ != 2) && (O.typ != 3)) && (O.typ != 4)) && (O.typ != 7))) || (decide (O.alg < 0))) || (decide (100 < O.alg))) : Bool) = false := by rw [← Bool.not_eq_true]; exact hc0
              clear hc0
              rw [hc] at eg
              have hWi : (!((((!(isT O.id)) || ((((O.typ != 2) && (O.typ != 3)) && (O.typ != 4)) && (O.typ != 7))) || (decide (O.alg < 0))) || (decide (100 < O.alg)))) = true := by rw [hc]; rfl
              refine does_on rfl (by kernel_rfl) eg fun K Q' hK => ?_
              clear eg
              replace e35 := e35.trans (congrArg some (if_t hWi))
              have hf : Hid ((.int .i64 O.len : Value) = (if (!((((!(isT O.id)) || ((((O.typ != 2) && (O.typ != 3)) && (O.typ != 4)) && (O.typ != 7))) || (decide (O.alg < 0))) || (decide (100 < O.alg)))) = true then .int .i64 O.len else undef)) := (if_t hWi).symm
              clear hWi hc
              have hc0 := cell_of_block (j := 3) ((hg.block _ (block_lt S.out.box)).trans S.out.box) (oc3 O s)
              go_simp; exact hK _ _ (Grow.refl _) hf.out
          · intro w1 hg Ar seen
            have e36 := seen.de 36 48
            have eg := seen.de 34 46
            by_cases hc0 : (((((!(isT O.id)) || ((((O.typ != 2) && (O.typ != 3)) && (O.typ != 4)) && (O.typ != 7))) || (decide (O.alg < 0))) || (decide (100 < O.alg))) : Bool) = true
            · have hc := hc0
              clear hc0
              rw [hc] at eg
              have hWi : (!((((!(isT O.id)) || ((((O.typ != 2) && (O.typ != 3)) && (O.typ != 4)) && (O.typ != 7))) || (decide (O.alg < 0))) || (decide (100 < O.alg)))) = false := by rw [hc]; rfl
              exact does_off rfl (by kernel_rfl) eg ne_tf (Grow.refl _) (show undef = _ from (if_f hWi).symm)
            · have hc : (((((!(isT O.id)) || ((((O.typ != 2) && (O.typ != 3)) && (O.typ != 4)) && (O.typ != 7))) || (decide (O.alg < 0))) || (decide (100 < O.alg))) : Bool) = false := by rw [← Bool.not_eq_true]; exact hc0
              clear hc0
              rw [hc] at eg
              have hWi : (!((((!(isT O.id)) || ((((O.typ != 2) && (O.typ != 3)) && (O.typ != 4)) && (O.typ != 7))) || (decide (O.alg < 0))) || (decide (100 < O.alg)))) = true := by rw [hc]; rfl
              refine does_on rfl (by kernel_rfl) eg fun K Q' hK => ?_
              clear eg
              replace e36 := e36.trans (congrArg some (if_t hWi))
              have hf : Hid ((.bool (decide (O.len < 0)) : Value) = (if (!((((!(isT O.id)) || ((((O.typ != 2) && (O.typ != 3)) && (O.typ != 4)) && (O.typ != 7))) || (decide (O.alg < 0))) || (decide (100 < O.alg)))) = true then .bool (decide (O.len < 0)) else undef)) := (if_t hWi).symm
              clear hWi hc
              go_simp; exact hK _ _ (Grow.refl _) hf.out
          · intro w1 hg Ar seen
            have e34 := seen.de 34 46
            have e37 := seen.de 37 49
            refine does_plain rfl fun K Q' hK => ?_
            by_cases hp0 : (((((!(isT O.id)) || ((((O.typ != 2) && (O.typ != 3)) && (O.typ != 4)) && (O.typ != 7))) || (decide (O.alg < 0))) || (decide (100 < O.alg))) : Bool) = true
            · have hp := hp0
              clear hp0
              rw [hp] at e34
              clear e37
              have hv := hid (by show (Value.bool true) = .bool (((((!(isT O.id)) || ((((O.typ != 2) && (O.typ != 3)) && (O.typ != 4)) && (O.typ != 7))) || (decide (O.alg < 0))) || (decide (100 < O.alg))) || (decide (O.len < 0))); rw [hp]; rfl)
              clear hp
              go_simp; exact hK _ _ (Grow.refl _) hv.out
            · have hp : (((((!(isT O.id)) || ((((O.typ != 2) && (O.typ != 3)) && (O.typ != 4)) && (O.typ != 7))) || (decide (O.alg < 0))) || (decide (100 < O.alg))) : Bool) = false := by rw [← Bool.not_eq_true]; exact hp0
              clear hp0
              rw [hp] at e34
              replace e37 := e37.trans (congrArg some (if_t (by rw [hp]; rfl)))
              have hv := hid (by show (Value.bool (decide (O.len < 0))) = .bool (((((!(isT O.id)) || ((((O.typ != 2) && (O.typ != 3)) && (O.typ != 4)) && (O.typ != 7))) || (decide (O.alg < 0))) || (decide (100 < O.alg))) || (decide (O.len < 0))); rw [hp]; rfl)
              clear hp
              go_simp; exact hK _ _ (Grow.refl _) hv.out
          · intro w1 hg Ar seen
            have e38 := seen.de 38 50
            refine does_plain rfl fun K Q' hK => ?_
            go_simp; exact hK _ _ (Grow.refl _) rfl
          · intro w1 hg Ar seen
            have s1 := seen.sl 1 (.pointer (some ⟨b, 0, none⟩))
            have eg := seen.de 39 51
            by_cases hc0 : ((((((!(isT O.id)) || ((((O.typ != 2) && (O.typ != 3)) && (O.typ != 4)) && (O.typ != 7))) || (decide (O.alg < 0))) || (decide (100 < O.alg))) || (decide (O.len < 0))) : Bool) = true
            · have hc := hc0
              clear hc0
              rw [hc] at eg
              have hWi : (!(((((!(isT O.id)) || ((((O.typ != 2) && (O.typ != 3)) && (O.typ != 4)) && (O.typ != 7))) || (decide (O.alg < 0))) || (decide (100 < O.alg))) || (decide (O.len < 0)))) = false := by rw [hc]; rfl
              exact does_off rfl (by kernel_rfl) eg ne_tf (Grow.refl _) (show undef = _ from (if_f hWi).symm)
            · have hc : ((((((!(isT O.id)) || ((((O.typ != 2) && (O.typ != 3)) && (O.typ != 4)) && (O.typ != 7))) || (decide (O.alg < 0))) || (decide (100 < O.alg))) || (decide (O.len < 0))) : Bool) = false := by rw [← Bool.not_eq_true]; exact hc0
              clear hc0
              rw [hc] at eg
              have hWi : (!(((((!(isT O.id)) || ((((O.typ != 2) && (O.typ != 3)) && (O.typ != 4)) && (O.typ != 7))) || (decide (O.alg < 0))) || (decide (100 < O.alg))) || (decide (O.len < 0)))) = true := by rw [hc]; rfl
              refine does_on rfl (by kernel_rfl) eg fun K Q' hK => ?_
              clear eg
              have hf : Hid ((.pointer (some ⟨b, 3, none⟩) : Value) = (if (!(((((!(isT O.id)) || ((((O.typ != 2) && (O.typ != 3)) && (O.typ != 4)) && (O.typ != 7))) || (decide (O.alg < 0))) || (decide (100 < O.alg))) || (decide (O.len < 0)))) = true then .pointer (some ⟨b, 3, none⟩) else undef)) := (if_t hWi).symm
              clear hWi hc
              go_simp; exact hK _ _ (Grow.refl _) hf.out
          · intro w1 hg Ar seen
            have e40 := seen.de 40 52
            have eg := seen.de 39 51
            by_cases hc0 : ((((((!(isT O.id)) || ((((O.typ != 2) && (O.typ != 3)) && (O.typ != 4)) && (O.typ != 7))) || (decide (O.alg < 0))) || (decide (100 < O.alg))) || (decide (O.len < 0))) : Bool) = true
            · have hc := hc0
              clear hc0
              rw [hc] at eg
              have hWi : (!(((((!(isT O.id)) || ((((O.typ != 2) && (O.typ != 3)) && (O.typ != 4)) && (O.typ != 7))) || (decide (O.alg < 0))) || (decide (100 < O.alg))) || (decide (O.len < 0)))) = false := by rw [hc]; rfl
              exact does_off rfl (by kernel_rfl) eg ne_tf (Grow.refl _) (show undef = _ from (if_f hWi).symm)
            · have hc : ((((((!(isT O.id)) || ((((O.typ != 2) && (O.typ != 3)) && (O.typ != 4)) && (O.typ != 7))) || (decide (O.alg < 0))) || (decide (100 < O.alg))) || (decide (O.len < 0))) : Bool) = false := by rw [← Bool.not_eq_true]; exact hc0
              clear hc0
              rw [hc] at eg
              have hWi : (!(((((!(isT O.id)) || ((((O.typ != 2) && (O.typ != 3)) && (O.typ != 4)) && (O.typ != 7))) || (decide (O.alg < 0))) || (decide (100 < O.alg))) || (decide (O.len < 0)))) = true := by rw [hc]; rfl
              refine does_on rfl (by kernel_rfl) eg fun K Q' hK => ?_
              clear eg
              replace e40 := e40.trans (congrArg some (if_t hWi))
              have hf : Hid ((.int .i64 O.len : Value) = (if (!(((((!(isT O.id)) || ((((O.typ != 2) && (O.typ != 3)) && (O.typ != 4)) && (O.typ != 7))) || (decide (O.alg < 0))) || (decide (100 < O.alg))) || (decide (O.len < 0)))) = true then .int .i64 O.len else undef)) := (if_t hWi).symm
              clear hWi hc
              have hc0 := cell_of_block (j := 3) ((hg.block _ (block_lt S.out.box)).trans S.out.box) (oc3 O s)
              go_simp; exact hK _ _ (Grow.refl _) hf.out
          · intro w1 hg Ar seen
            have e41 := seen.de 41 53
            have eg := seen.de 39 51
            by_cases hc0 : ((((((!(isT O.id)) || ((((O.typ != 2) && (O.typ != 3)) && (O.typ != 4)) && (O.typ != 7))) || (decide (O.alg < 0))) || (decide (100 < O.alg))) || (decide (O.len < 0))) : Bool) = true
            · have hc := hc0
              clear hc0
              rw [hc] at eg
              have hWi : (!(((((!(isT O.id)) || ((((O.typ != 2) && (O.typ != 3)) && (O.typ != 4)) && (O.typ != 7))) || (decide (O.alg < 0))) || (decide (100 < O.alg))) || (decide (O.len < 0)))) = false := by rw [hc]; rfl
              exact does_off rfl (by kernel_rfl) eg ne_tf (Grow.refl _) (show undef = _ from (if_f hWi).symm)
            · have hc : ((((((!(isT O.id)) || ((((O.typ != 2) && (O.typ != 3)) && (O.typ != 4)) && (O.typ != 7))) || (decide (O.alg < 0))) || (decide (100 < O.alg))) || (decide (O.len < 0))) : Bool) = false := by rw [← Bool.not_eq_true]; exact hc0
              clear hc0
              rw [hc] at eg
              have hWi : (!(((((!(isT O.id)) || ((((O.typ != 2) && (O.typ != 3)) && (O.typ != 4)) && (O.typ != 7))) || (decide (O.alg < 0))) || (decide (100 < O.alg))) || (decide (O.len < 0)))) = true := by rw [hc]; rfl
              refine does_on rfl (by kernel_rfl) eg fun K Q' hK => ?_
              clear eg
              replace e41 := e41.trans (congrArg some (if_t hWi))
              have hf : Hid ((.bool (decide (100000 < O.len)) : Value) = (if (!(((((!(isT O.id)) || ((((O.typ != 2) && (O.typ != 3)) && (O.typ != 4)) && (O.typ != 7))) || (decide (O.alg < 0))) || (decide (100 < O.alg))) || (decide (O.len < 0)))) = true then .bool (decide (100000 < O.len)) else undef)) := (if_t hWi).symm
              clear hWi hc
              go_simp; exact hK _ _ (Grow.refl _) hf.out
          · intro w1 hg Ar seen
            have e39 := seen.de 39 51
            have e42 := seen.de 42 54
            refine does_plain rfl fun K Q' hK => ?_
            by_cases hp0 : ((((((!(isT O.id)) || ((((O.typ != 2) && (O.typ != 3)) && (O.typ != 4)) && (O.typ != 7))) || (decide (O.alg < 0))) || (decide (100 < O.alg))) || (decide (O.len < 0))) : Bool) = true
            · have hp := hp0
              clear hp0
              rw [hp] at e39
              clear e42
              have hv := hid (by show (Value.bool true) = .bool ((((((!(isT O.id)) || ((((O.typ != 2) && (O.typ != 3)) && (O.typ != 4)) && (O.typ != 7))) || (decide (O.alg < 0))) || (decide (100 < O.alg))) || (decide (O.len < 0))) || (decide (100000 < O.len))); rw [hp]; rfl)
              clear hp
              go_simp; exact hK _ _ (Grow.refl _) hv.out
            · have hp : ((((((!(isT O.id)) || ((((O.typ != 2) && (O.typ != 3)) && (O.typ != 4)) && (O.typ != 7))) || (decide (O.alg < 0))) || (decide (100 < O.alg))) || (decide (O.len < 0))) : Bool) = false := by rw [← Bool.not_eq_true]; exact hp0
              clear hp0
              rw [hp] at e39
              replace e42 := e42.trans (congrArg some (if_t (by rw [hp]; rfl)))
              have hv := hid (by show (Value.bool (decide (100000 < O.len))) = .bool ((((((!(isT O.id)) || ((((O.typ != 2) && (O.typ != 3)) && (O.typ != 4)) && (O.typ != 7))) || (decide (O.alg < 0))) || (decide (100 < O.alg))) || (decide (O.len < 0))) || (decide (100000 < O.len))); rw [hp]; rfl)
              clear hp
              go_simp; exact hK _ _ (Grow.refl _) hv.out
          · intro w1 hg Ar seen
            have e43 := seen.de 43 55
            refine does_plain rfl fun K Q' hK => ?_
            go_simp; exact hK _ _ (Grow.refl _) rfl
          · intro w1 hg Ar seen
            have s1 := seen.sl 1 (.pointer (some ⟨b, 0, none⟩))
            have eg := seen.de 44 56
            by_cases hc0 : (((((((!(isT O.id)) || ((((O.typ != 2) && (O.typ != 3)) && (O.typ != 4)) && (O.typ != 7))) || (decide (O.alg < 0))) || (decide (100 < O.alg))) || (decide (O.len < 0))) || (decide (100000 < O.len))) : Bool) = true
            · have hc := hc0
              clear hc0
              rw [hc] at eg
              have hWi : (!((((((!(isT O.id)) || ((((O.typ != 2) && (O.typ != 3)) && (O.typ != 4)) && (O.typ != 7))) || (decide (O.alg < 0))) || (decide (100 < O.alg))) || (decide (O.len < 0))) || (decide (100000 < O.len)))) = false := by rw [hc]; rfl
              exact does_off rfl (by kernel_rfl) eg ne_tf (Grow.refl _) (show undef = _ from (if_f hWi).symm)
            · have hc : (((((((!(isT O.id)) || ((((O.typ != 2) && (O.typ != 3)) && (O.typ != 4)) && (O.typ != 7))) || (decide (O.alg < 0))) || (decide (100 < O.alg))) || (decide (O.len < 0))) || (decide (100000 < O.len))) : Bool) = false := by rw [← Bool.not_eq_true]; exact hc0
              clear hc0
              rw [hc] at eg
              have hWi : (!((((((!(isT O.id)) || ((((O.typ != 2) && (O.typ != 3)) && (O.typ != 4)) && (O.typ != 7))) || (decide (O.alg < 0))) || (decide (100 < O.alg))) || (decide (O.len < 0))) || (decide (100000 < O.len)))) = true := by rw [hc]; rfl
              refine does_on rfl (by kernel_rfl) eg fun K Q' hK => ?_
              clear eg
              have hf : Hid ((.pointer (some ⟨b, 4, none⟩) : Value) = (if (!((((((!(isT O.id)) || ((((O.typ != 2) && (O.typ != 3)) && (O.typ != 4)) && (O.typ != 7))) || (decide (O.alg < 0))) || (decide (100 < O.alg))) || (decide (O.len < 0))) || (decide (100000 < O.len)))) = true then .pointer (some ⟨b, 4, none⟩) else undef)) := (if_t hWi).symm
              clear hWi hc
              go_simp; exact hK _ _ (Grow.refl _) hf.out
          · intro w1 hg Ar seen
            have e45 := seen.de 45 57
            have eg := seen.de 44 56
            by_cases hc0 : (((((((!(isT O.id)) || ((((O.typ != 2) && (O.typ != 3)) && (O.typ != 4)) && (O.typ != 7))) || (decide (O.alg < 0))) || (decide (100 < O.alg))) || (decide (O.len < 0))) || (decide (100000 < O.len))) : Bool) = true
            · have hc := hc0
              clear hc0
              rw [hc] at eg
              have hWi : (!((((((!(isT O.id)) || ((((O.typ != 2) && (O.typ != 3)) && (O.typ != 4)) && (O.typ != 7))) || (decide (O.alg < 0))) || (decide (100 < O.alg))) || (decide (O.len < 0))) || (decide (100000 < O.len)))) = false := by rw [hc]; rfl
              exact does_off rfl (by kernel_rfl) eg ne_tf (Grow.refl _) (show undef = _ from (if_f hWi).symm)
            · have hc : (((((((!(isT O.id)) || ((((O.typ != 2) && (O.typ != 3)) && (O.typ != 4)) && (O.typ != 7))) || (decide (O.alg < 0))) || (decide (100 < O.alg))) || (decide (O.len < 0))) || (decide (100000 < O.len))) : Bool) = false := by rw [← Bool.not_eq_true]; exact hc0
              clear hc0
              rw [hc] at eg
              have hWi : (!((((((!(isT O.id)) || ((((O.typ != 2) && (O.typ != 3)) && (O.typ != 4)) && (O.typ != 7))) || (decide (O.alg < 0))) || (decide (100 < O.alg))) || (decide (O.len < 0))) || (decide (100000 < O.len)))) = true := by rw [hc]; rfl
              refine does_on rfl (by kernel_rfl) eg fun K Q' hK => ?_
              clear eg
              replace e45 := e45.trans (congrArg some (if_t hWi))
              have hf : Hid ((.int .i64 O.mask : Value) = (if (!((((((!(isT O.id)) || ((((O.typ != 2) && (O.typ != 3)) && (O.typ != 4)) && (O.typ != 7))) || (decide (O.alg < 0))) || (decide (100 < O.alg))) || (decide (O.len < 0))) || (decide (100000 < O.len)))) = true then .int .i64 O.mask else undef)) := (if_t hWi).symm
              clear hWi hc
              have hc0 := cell_of_block (j := 4) ((hg.block _ (block_lt S.out.box)).trans S.out.box) (oc4 O s)
              go_simp; exact hK _ _ (Grow.refl _) hf.out
          · intro w1 hg Ar seen
            have e46 := seen.de 46 58
            have eg := seen.de 44 56
            by_cases hc0 : (((((((!(isT O.id)) || ((((O.typ != 2) && (O.typ != 3)) && (O.typ != 4)) && (O.typ != 7))) || (decide (O.alg < 0))) || (decide (100 < O.alg))) || (decide (O.len < 0))) || (decide (100000 < O.len))) : Bool) = true
            · have hc := hc0
              clear hc0
              rw [hc] at eg
              have hWi : (!((((((!(isT O.id)) || ((((O.typ != 2) && (O.typ != 3)) && (O.typ != 4)) && (O.typ != 7))) || (decide (O.alg < 0))) || (decide (100 < O.alg))) || (decide (O.len < 0))) || (decide (100000 < O.len)))) = false := by rw [hc]; rfl
              exact does_off rfl (by kernel_rfl) eg ne_tf (Grow.refl _) (show undef = _ from (if_f hWi).symm)
            · have hc : (((((((!(isT O.id)) || ((((O.typ != 2) && (O.typ != 3)) && (O.typ != 4)) && (O.typ != 7))) || (decide (O.alg < 0))) || (decide (100 < O.alg))) || (decide (O.len < 0))) || (decide (100000 < O.len))) : Bool) = false := by rw [← Bool.not_eq_true]; exact hc0
              clear hc0
              rw [hc] at eg
              have hWi : (!((((((!(isT O.id)) || ((((O.typ != 2) && (O.typ != 3)) && (O.typ != 4)) && (O.typ != 7))) || (decide (O.alg < 0))) || (decide (100 < O.alg))) || (decide (O.len < 0))) || (decide (100000 < O.len)))) = true := by rw [hc]; rfl
              refine does_on rfl (by kernel_rfl) eg fun K Q' hK => ?_
              clear eg
              replace e46 := e46.trans (congrArg some (if_t hWi))
              have hf : Hid ((.bool (decide (O.mask < 0)) : Value) = (if (!((((((!(isT O.id)) || ((((O.typ != 2) && (O.typ != 3)) && (O.typ != 4)) && (O.typ != 7))) || (decide (O.alg < 0))) || (decide (100 < O.alg))) || (decide (O.len < 0))) || (decide (100000 < O.len)))) = true then .bool (decide (O.mask < 0)) else undef)) := (if_t hWi).symm
              clear hWi hc
              go_simp; exact hK _ _ (Grow.refl _) hf.out
          · intro w1 hg Ar seen
            have e44 := seen.de 44 56
            have e47 := seen.de 47 59
            refine does_plain rfl fun K Q' hK => ?_
            by_cases hp0 : (((((((!(isT O.id)) || ((((O.typ != 2) && (O.typ != 3)) && (O.typ != 4)) && (O.typ != 7))) || (decide (O.alg < 0))) || (decide (100 < O.alg))) || (decide (O.len < 0))) || (decide (100000 < O.len))) : Bool) = true
            · have hp := hp0
              clear hp0
              rw [hp] at e44
              clear e47
              have hv := hid (by show (Value.bool true) = .bool (((((((!(isT O.id)) || ((((O.typ != 2) && (O.typ != 3)) && (O.typ != 4)) && (O.typ != 7))) || (decide (O.alg < 0))) || (decide (100 < O.alg))) || (decide (O.len < 0))) || (decide (100000 < O.len))) || (decide (O.mask < 0))); rw [hp]; rfl)
              clear hp
              go_simp; exact hK _ _ (Grow.refl _) hv.out
            · have hp : (((((((!(isT O.id)) || ((((O.typ != 2) && (O.typ != 3)) && (O.typ != 4)) && (O.typ != 7))) || (decide (O.alg < 0))) || (decide (100 < O.alg))) || (decide (O.len < 0))) || (decide (100000 < O.len))) : Bool) = false := by rw [← Bool.not_eq_true]; exact hp0
              clear hp0
              rw [hp] at e44
              replace e47 := e47.trans (congrArg some (if_t (by rw [hp]; rfl)))
              have hv := hid (by show (Value.bool (decide (O.mask < 0))) = .bool (((((((!(isT O.id)) || ((((O.typ != 2) && (O.typ != 3)) && (O.typ != 4)) && (O.typ != 7))) || (decide (O.alg < 0))) || (decide (100 < O.alg))) || (decide (O.len < 0))) || (decide (100000 < O.len))) || (decide (O.mask < 0))); rw [hp]; rfl)
              clear hp
              go_simp; exact hK _ _ (Grow.refl _) hv.out
          · intro w1 hg Ar seen
            have e48 := seen.de 48 60
            refine does_plain rfl fun K Q' hK => ?_
            go_simp; exact hK _ _ (Grow.refl _) rfl
          · intro w1 hg Ar seen
            have s1 := seen.sl 1 (.pointer (some ⟨b, 0, none⟩))
            have eg := seen.de 49 61
            by_cases hc0 : ((((((((!(isT O.id)) || ((((O.typ != 2) && (O.typ != 3)) && (O.typ != 4)) && (O.typ != 7))) || (decide (O.alg < 0))) || (decide (100 < O.alg))) || (decide (O.len < 0))) || (decide (100000 < O.len))) || (decide (O.mask < 0))) : Bool) = true
            · have hc := hc0
              clear hc0
              rw [hc] at eg
              have hWi : (!(((((((!(isT O.id)) || ((((O.typ != 2) && (O.typ != 3)) && (O.typ != 4)) && (O.typ != 7))) || (decide (O.alg < 0))) || (decide (100 < O.alg))) || (decide (O.len < 0))) || (decide (100000 < O.len))) || (decide (O.mask < 0)))) = false := by rw [hc]; rfl
              exact does_off rfl (by kernel_rfl) eg ne_tf (Grow.refl _) (show undef = _ from (if_f hWi).symm)
            · have hc : ((((((((!(isT O.id)) || ((((O.typ != 2) && (O.typ != 3)) && (O.typ != 4)) && (O.typ != 7))) || (decide (O.alg < 0))) || (decide (100 < O.alg))) || (decide (O.len < 0))) || (decide (100000 < O.len))) || (decide (O.mask < 0))) : Bool) = false := by rw [← Bool.not_eq_true]; exact hc0
              clear hc0
              rw [hc] at eg
              have hWi : (!(((((((!(isT O.id)) || ((((O.typ != 2) && (O.typ != 3)) && (O.typ != 4)) && (O.typ != 7))) || (decide (O.alg < 0))) || (decide (100 < O.alg))) || (decide (O.len < 0))) || (decide (100000 < O.len))) || (decide (O.mask < 0)))) = true := by rw [hc]; rfl
              refine does_on rfl (by kernel_rfl) eg fun K Q' hK => ?_
              clear eg
              have hf : Hid ((.pointer (some ⟨b, 4, none⟩) : Value) = (if (!(((((((!(isT O.id)) || ((((O.typ != 2) && (O.typ != 3)) && (O.typ != 4)) && (O.typ != 7))) || (decide (O.alg < 0))) || (decide (100 < O.alg))) || (decide (O.len < 0))) || (decide (100000 < O.len))) || (decide (O.mask < 0)))) = true then .pointer (some ⟨b, 4, none⟩) else undef)) := (if_t hWi).symm
              clear hWi hc
              go_simp; exact hK _ _ (Grow.refl _) hf.out
          · intro w1 hg Ar seen
            have e50 := seen.de 50 62
            have eg := seen.de 49 61
            by_cases hc0 : ((((((((!(isT O.id)) || ((((O.typ != 2) && (O.typ != 3)) && (O.typ != 4)) && (O.typ != 7))) || (decide (O.alg < 0))) || (decide (100 < O.alg))) || (decide (O.len < 0))) || (decide (100000 < O.len))) || (decide (O.mask < 0))) : Bool) = true
            · have hc := hc0
              clear hc0
              rw [hc] at eg
              have hWi : (!(((((((!(isT O.id)) || ((((O.typ != 2) && (O.typ != 3)) && (O.typ != 4)) && (O.typ != 7))) || (decide (O.alg < 0))) || (decide (100 < O.alg))) || (decide (O.len < 0))) || (decide (100000 < O.len))) || (decide (O.mask < 0)))) = false := by rw [hc]; rfl
              exact does_off rfl (by kernel_rfl) eg ne_tf (Grow.refl _) (show undef = _ from (if_f hWi).symm)
            · have hc : ((((((((!(isT O.id)) || ((((O.typ != 2) && (O.typ != 3)) && (O.typ != 4)) && (O.typ != 7))) || (decide (O.alg < 0))) || (decide (100 < O.alg))) || (decide (O.len < 0))) || (decide (100000 < O.len))) || (decide (O.mask < 0))) : Bool) = false := by rw [← Bool.not_eq_true]; exact hc0
              clear hc0
              rw [hc] at eg
              have hWi : (!(((((((!(isT O.id)) || ((((O.typ != 2) && (O.typ != 3)) && (O.typ != 4)) && (O.typ != 7))) || (decide (O.alg < 0))) || (decide (100 < O.alg))) || (decide (O.len < 0))) || (decide (100000 < O.len))) || (decide (O.mask < 0)))) = true := by rw [hc]; rfl
              refine does_on rfl (by kernel_rfl) eg fun K Q' hK => ?_
              clear eg
              replace e50 := e50.trans (congrArg some (if_t hWi))
              have hf : Hid ((.int .i64 O.mask : Value) = (if (!(((((((!(isT O.id)) || ((((O.typ != 2) && (O.typ != 3)) && (O.typ != 4)) && (O.typ != 7))) || (decide (O.alg < 0))) || (decide (100 < O.alg))) || (decide (O.len < 0))) || (decide (100000 < O.len))) || (decide (O.mask < 0)))) = true then .int .i64 O.mask else undef)) := (if_t hWi).symm
              clear hWi hc
              have hc0 := cell_of_block (j := 4) ((hg.block _ (block_lt S.out.box)).trans S.out.box) (oc4 O s)
              go_simp; exact hK _ _ (Grow.refl _) hf.out
          · intro w1 hg Ar seen
            have e51 := seen.de 51 63
            have eg := seen.de 49 61
            by_cases hc0 : ((((((((!(isT O.id)) || ((((O.typ != 2) && (O.typ != 3)) && (O.typ != 4)) && (O.typ != 7))) || (decide (O.alg < 0))) || (decide (100 < O.alg))) || (decide (O.len < 0))) || (decide (100000 < O.len))) || (decide (O.mask < 0))) : Bool) = true
            · have hc := hc0
              clear hc0
              rw [hc] at eg
              have hWi : (!(((((((!(isT O.id)) || ((((O.typ != 2) && (O.typ != 3)) && (O.typ != 4)) && (O.typ != 7))) || (decide (O.alg < 0))) || (decide (100 < O.alg))) || (decide (O.len < 0))) || (decide (100000 < O.len))) || (decide (O.mask < 0)))) = false := by rw [hc]; rfl
              exact does_off rfl (by kernel_rfl) eg ne_tf (Grow.refl _) (show undef = _ from (if_f hWi).symm)
            · have hc : ((((((((!(isT O.id)) || ((((O.typ != 2) && (O.typ != 3)) && (O.typ != 4)) && (O.typ != 7))) || (decide (O.alg < 0))) || (decide (100 < O.alg))) || (decide (O.len < 0))) || (decide (100000 < O.len))) || (decide (O.mask < 0))) : Bool) = false := by rw [← Bool.not_eq_true]; exact hc0
              clear hc0
              rw [hc] at eg
              have hWi : (!(((((((!(isT O.id)) || ((((O.typ != 2) && (O.typ != 3)) && (O.typ != 4)) && (O.typ != 7))) || (decide (O.alg < 0))) || (decide (100 < O.alg))) || (decide (O.len < 0))) || (decide (100000 < O.len))) || (decide (O.mask < 0)))) = true := by rw [hc]; rfl
              refine does_on rfl (by kernel_rfl) eg fun K Q' hK => ?_
              clear eg
              replace e51 := e51.trans (congrArg some (if_t hWi))
              have hf : Hid ((.bool (decide (1048575 < O.mask)) : Value) = (if (!(((((((!(isT O.id)) || ((((O.typ != 2) && (O.typ != 3)) && (O.typ != 4)) && (O.typ != 7))) || (decide (O.alg < 0))) || (decide (100 < O.alg))) || (decide (O.len < 0))) || (decide (100000 < O.len))) || (decide (O.mask < 0)))) = true then .bool (decide (1048575 < O.mask)) else undef)) := (if_t hWi).symm
              clear hWi hc
              go_simp; exact hK _ _ (Grow.refl _) hf.out
          · intro w1 hg Ar seen
            have e49 := seen.de 49 61
            have e52 := seen.de 52 64
            refine does_plain rfl fun K Q' hK => ?_
            by_cases hp0 : ((((((((!(isT O.id)) || ((((O.typ != 2) && (O.typ != 3)) && (O.typ != 4)) && (O.typ != 7))) || (decide (O.alg < 0))) || (decide (100 < O.alg))) || (decide (O.len < 0))) || (decide (100000 < O.len))) || (decide (O.mask < 0))) : Bool) = true
            · have hp := hp0
              clear hp0
              rw [hp] at e49
              clear e52
              have hv := hid (by show (Value.bool true) = .bool ((((((((!(isT O.id)) || ((((O.typ != 2) && (O.typ != 3)) && (O.typ != 4)) && (O.typ != 7))) || (decide (O.alg < 0))) || (decide (100 < O.alg))) || (decide (O.len < 0))) || (decide (100000 < O.len))) || (decide (O.mask < 0))) || (decide (1048575 < O.mask))); rw [hp]; rfl)
              clear hp
              go_simp; exact hK _ _ (Grow.refl _) hv.out
            · have hp : ((((((((!(isT O.id)) || ((((O.typ != 2) && (O.typ != 3)) && (O.typ != 4)) && (O.typ != 7))) || (decide (O.alg < 0))) || (decide (100 < O.alg))) || (decide (O.len < 0))) || (decide (100000 < O.len))) || (decide (O.mask < 0))) : Bool) = false := by rw [← Bool.not_eq_true]; exact hp0
              clear hp0
              rw [hp] at e49
              replace e52 := e52.trans (congrArg some (if_t (by rw [hp]; rfl)))
              have hv := hid (by show (Value.bool (decide (1048575 < O.mask))) = .bool ((((((((!(isT O.id)) || ((((O.typ != 2) && (O.typ != 3)) && (O.typ != 4)) && (O.typ != 7))) || (decide (O.alg < 0))) || (decide (100 < O.alg))) || (decide (O.len < 0))) || (decide (100000 < O.len))) || (decide (O.mask < 0))) || (decide (1048575 < O.mask))); rw [hp]; rfl)
              clear hp
              go_simp; exact hK _ _ (Grow.refl _) hv.out
          · intro w1 hg Ar seen
            have e53 := seen.de 53 65
            refine does_plain rfl fun K Q' hK => ?_
            go_simp; exact hK _ _ (Grow.refl _) rfl
          · intro w1 hg Ar seen
            have s1 := seen.sl 1 (.pointer (some ⟨b, 0, none⟩))
            have eg := seen.de 54 66
            by_cases hc0 : (((((((((!(isT O.id)) || ((((O.typ != 2) && (O.typ != 3)) && (O.typ != 4)) && (O.typ != 7))) || (decide (O.alg < 0))) || (decide (100 < O.alg))) || (decide (O.len < 0))) || (decide (100000 < O.len))) || (decide (O.mask < 0))) || (decide (1048575 < O.mask))) : Bool) = true
            · have hc := hc0
              clear hc0
              rw [hc] at eg
              have hWi : (!((((((((!(isT O.id)) || ((((O.typ != 2) && (O.typ != 3)) && (O.typ != 4)) && (O.typ != 7))) || (decide (O.alg < 0))) || (decide (100 < O.alg))) || (decide (O.len < 0))) || (decide (100000 < O.len))) || (decide (O.mask < 0))) || (decide (1048575 < O.mask)))) = false := by rw [hc]; rfl
              exact does_off rfl (by kernel_rfl) eg ne_tf (Grow.refl _) (show undef = _ from (if_f hWi).symm)
            · have hc : (((((((((!(isT O.id)) || ((((O.typ != 2) && (O.typ != 3)) && (O.typ != 4)) && (O.typ != 7))) || (decide (O.alg < 0))) || (decide (100 < O.alg))) || (decide (O.len < 0))) || (decide (100000 < O.len))) || (decide (O.mask < 0))) || (decide (1048575 < O.mask))) : Bool) = false := by rw [← Bool.not_eq_true]; exact hc0
              clear hc0
              rw [hc] at eg
              have hWi : (!((((((((!(isT O.id)) || ((((O.typ != 2) && (O.typ != 3)) && (O.typ != 4)) && (O.typ != 7))) || (decide (O.alg < 0))) || (decide (100 < O.alg))) || (decide (O.len < 0))) || (decide (100000 < O.len))) || (decide (O.mask < 0))) || (decide (1048575 < O.mask)))) = true := by rw [hc]; rfl
              refine does_on rfl (by kernel_rfl) eg fun K Q' hK => ?_
              clear eg
              have hf : Hid ((.pointer (some ⟨b, 5, none⟩) : Value) = (if (!((((((((!(isT O.id)) || ((((O.typ != 2) && (O.typ != 3)) && (O.typ != 4)) && (O.typ != 7))) || (decide (O.alg < 0))) || (decide (100 < O.alg))) || (decide (O.len < 0))) || (decide (100000 < O.len))) || (decide (O.mask < 0))) || (decide (1048575 < O.mask)))) = true then .pointer (some ⟨b, 5, none⟩) else undef)) := (if_t hWi).symm
              clear hWi hc
              go_simp; exact hK _ _ (Grow.refl _) hf.out
          · intro w1 hg Ar seen
            have e55 := seen.de 55 67
            have eg := seen.de 54 66
            by_cases hc0 : (((((((((!(isT O.id)) || ((((O.typ != 2) && (O.typ != 3)) && (O.typ != 4)) && (O.typ != 7))) || (decide (O.alg < 0))) || (decide (100 < O.alg))) || (decide (O.len < 0))) || (decide (100000 < O.len))) || (decide (O.mask < 0))) || (decide (1048575 < O.mask))) : Bool) = true
            · have hc := hc0
              clear hc0
              rw [hc] at eg
              have hWi : (!((((((((!(isT O.id)) || ((((O.typ != 2) && (O.typ != 3)) && (O.typ != 4)) && (O.typ != 7))) || (decide (O.alg < 0))) || (decide (100 < O.alg))) || (decide (O.len < 0))) || (decide (100000 < O.len))) || (decide (O.mask < 0))) || (decide (1048575 < O.mask)))) = false := by rw [hc]; rfl
              exact does_off rfl (by kernel_rfl) eg ne_tf (Grow.refl _) (show undef = _ from (if_f hWi).symm)
            · have hc : (((((((((!(isT O.id)) || ((((O.typ != 2) && (O.typ != 3)) && (O.typ != 4)) && (O.typ != 7))) || (decide (O.alg < 0))) || (decide (100 < O.alg))) || (decide (O.len < 0))) || (decide (100000 < O.len))) || (decide (O.mask < 0))) || (decide (1048575 < O.mask))) : Bool) = false := by rw [← Bool.not_eq_true]; exact hc0
              clear hc0
              rw [hc] at eg
              have hWi : (!((((((((!(isT O.id)) || ((((O.typ != 2) && (O.typ != 3)) && (O.typ != 4)) && (O.typ != 7))) || (decide (O.alg < 0))) || (decide (100 < O.alg))) || (decide (O.len < 0))) || (decide (100000 < O.len))) || (decide (O.mask < 0))) || (decide (1048575 < O.mask)))) = true := by rw [hc]; rfl
              refine does_on rfl (by kernel_rfl) eg fun K Q' hK => ?_
              clear eg
              replace e55 := e55.trans (congrArg some (if_t hWi))
              have hf : Hid ((.slice s.mat.a s.mat.n s.mat.c : Value) = (if (!((((((((!(isT O.id)) || ((((O.typ != 2) && (O.typ != 3)) && (O.typ != 4)) && (O.typ != 7))) || (decide (O.alg < 0))) || (decide (100 < O.alg))) || (decide (O.len < 0))) || (decide (100000 < O.len))) || (decide (O.mask < 0))) || (decide (1048575 < O.mask)))) = true then .slice s.mat.a s.mat.n s.mat.c else undef)) := (if_t hWi).symm
              clear hWi hc
              have hc0 := cell_of_block (j := 5) ((hg.block _ (block_lt S.out.box)).trans S.out.box) (oc5 O s)
              go_simp; exact hK _ _ (Grow.refl _) hf.out
          · intro w1 hg Ar seen
            have e56 := seen.de 56 68
            have eg := seen.de 54 66
            by_cases hc0 : (((((((((!(isT O.id)) || ((((O.typ != 2) && (O.typ != 3)) && (O.typ != 4)) && (O.typ != 7))) || (decide (O.alg < 0))) || (decide (100 < O.alg))) || (decide (O.len < 0))) || (decide (100000 < O.len))) || (decide (O.mask < 0))) || (decide (1048575 < O.mask))) : Bool) = true
            · have hc := hc0
              clear hc0
              rw [hc] at eg
              have hWi : (!((((((((!(isT O.id)) || ((((O.typ != 2) && (O.typ != 3)) && (O.typ != 4)) && (O.typ != 7))) || (decide (O.alg < 0))) || (decide (100 < O.alg))) || (decide (O.len < 0))) || (decide (100000 < O.len))) || (decide (O.mask < 0))) || (decide (1048575 < O.mask)))) = false := by rw [hc]; rfl
              exact does_off rfl (by kernel_rfl) eg ne_tf (Grow.refl _) (show undef = _ from (if_f hWi).symm)
            · have hc : (((((((((!(isT O.id)) || ((((O.typ != 2) && (O.typ != 3)) && (O.typ != 4)) && (O.typ != 7))) || (decide (O.alg < 0))) || (decide (100 < O.alg))) || (decide (O.len < 0))) || (decide (100000 < O.len))) || (decide (O.mask < 0))) || (decide (1048575 < O.mask))) : Bool) = false := by rw [← Bool.not_eq_true]; exact hc0
              clear hc0
              rw [hc] at eg
              have hWi : (!((((((((!(isT O.id)) || ((((O.typ != 2) && (O.typ != 3)) && (O.typ != 4)) && (O.typ != 7))) || (decide (O.alg < 0))) || (decide (100 < O.alg))) || (decide (O.len < 0))) || (decide (100000 < O.len))) || (decide (O.mask < 0))) || (decide (1048575 < O.mask)))) = true := by rw [hc]; rfl
              refine does_on rfl (by kernel_rfl) eg fun K Q' hK => ?_
              clear eg
              replace e56 := e56.trans (congrArg some (if_t hWi))
              have hf : Hid ((.int .i64 (s.mat.n : Int) : Value) = (if (!((((((((!(isT O.id)) || ((((O.typ != 2) && (O.typ != 3)) && (O.typ != 4)) && (O.typ != 7))) || (decide (O.alg < 0))) || (decide (100 < O.alg))) || (decide (O.len < 0))) || (decide (100000 < O.len))) || (decide (O.mask < 0))) || (decide (1048575 < O.mask)))) = true then .int .i64 (s.mat.n : Int) else undef)) := (if_t hWi).symm
              clear hWi hc
              go_simp; exact hK _ _ (Grow.refl _) hf.out
          · intro w1 hg Ar seen
            have e57 := seen.de 57 69
            have eg := seen.de 54 66
            by_cases hc0 : (((((((((!(isT O.id)) || ((((O.typ != 2) && (O.typ != 3)) && (O.typ != 4)) && (O.typ != 7))) || (decide (O.alg < 0))) || (decide (100 < O.alg))) || (decide (O.len < 0))) || (decide (100000 < O.len))) || (decide (O.mask < 0))) || (decide (1048575 < O.mask))) : Bool) = true
            · have hc := hc0
              clear hc0
              rw [hc] at eg
              have hWi : (!((((((((!(isT O.id)) || ((((O.typ != 2) && (O.typ != 3)) && (O.typ != 4)) && (O.typ != 7))) || (decide (O.alg < 0))) || (decide (100 < O.alg))) || (decide (O.len < 0))) || (decide (100000 < O.len))) || (decide (O.mask < 0))) || (decide (1048575 < O.mask)))) = false := by rw [hc]; rfl
              exact does_off rfl (by kernel_rfl) eg ne_tf (Grow.refl _) (show undef = _ from (if_f hWi).symm)
            · have hc : (((((((((!(isT O.id)) || ((((O.typ != 2) && (O.typ != 3)) && (O.typ != 4)) && (O.typ != 7))) || (decide (O.alg < 0))) || (decide (100 < O.alg))) || (decide (O.len < 0))) || (decide (100000 < O.len))) || (decide (O.mask < 0))) || (decide (1048575 < O.mask))) : Bool) = false := by rw [← Bool.not_eq_true]; exact hc0
              clear hc0
              rw [hc] at eg
              have hWi : (!((((((((!(isT O.id)) || ((((O.typ != 2) && (O.typ != 3)) && (O.typ != 4)) && (O.typ != 7))) || (decide (O.alg < 0))) || (decide (100 < O.alg))) || (decide (O.len < 0))) || (decide (100000 < O.len))) || (decide (O.mask < 0))) || (decide (1048575 < O.mask)))) = true := by rw [hc]; rfl
              refine does_on rfl (by kernel_rfl) eg fun K Q' hK => ?_
              clear eg
              replace e57 := e57.trans (congrArg some (if_t hWi))
              have hf : Hid ((.bool (decide ((128 : Int) < (s.mat.n : Int))) : Value) = (if (!((((((((!(isT O.id)) || ((((O.typ != 2) && (O.typ != 3)) && (O.typ != 4)) && (O.typ != 7))) || (decide (O.alg < 0))) || (decide (100 < O.alg))) || (decide (O.len < 0))) || (decide (100000 < O.len))) || (decide (O.mask < 0))) || (decide (1048575 < O.mask)))) = true then .bool (decide ((128 : Int) < (s.mat.n : Int))) else undef)) := (if_t hWi).symm
              clear hWi hc
              go_simp; exact hK _ _ (Grow.refl _) hf.out
          · intro w1 hg Ar seen
            have e54 := seen.de 54 66
            have e58 := seen.de 58 70
            refine does_plain rfl fun K Q' hK => ?_
            by_cases hp0 : (((((((((!(isT O.id)) || ((((O.typ != 2) && (O.typ != 3)) && (O.typ != 4)) && (O.typ != 7))) || (decide (O.alg < 0))) || (decide (100 < O.alg))) || (decide (O.len < 0))) || (decide (100000 < O.len))) || (decide (O.mask < 0))) || (decide (1048575 < O.mask))) : Bool) = true
            · have hp := hp0
              clear hp0
              rw [hp] at e54
              clear e58
              have hv := hid (by show (Value.bool true) = .bool (((((((((!(isT O.id)) || ((((O.typ != 2) && (O.typ != 3)) && (O.typ != 4)) && (O.typ != 7))) || (decide (O.alg < 0))) || (decide (100 < O.alg))) || (decide (O.len < 0))) || (decide (100000 < O.len))) || (decide (O.mask < 0))) || (decide (1048575 < O.mask))) || (decide ((128 : Int) < (s.mat.n : Int)))); rw [hp]; rfl)
              clear hp
              go_simp; exact hK _ _ (Grow.refl _) hv.out
            · have hp : (((((((((!(isT O.id)) || ((((O.typ != 2) && (O.typ != 3)) && (O.typ != 4)) && (O.typ != 7))) || (decide (O.alg < 0))) || (decide (100 < O.alg))) || (decide (O.len < 0))) || (decide (100000 < O.len))) || (decide (O.mask < 0))) || (decide (1048575 < O.mask))) : Bool) = false := by rw [← Bool.not_eq_true]; exact hp0
              clear hp0
              rw [hp] at e54
              replace e58 := e58.trans (congrArg some (if_t (by rw [hp]; rfl)))
              have hv := hid (by show (Value.bool (decide ((128 : Int) < (s.mat.n : Int)))) = .bool (((((((((!(isT O.id)) || ((((O.typ != 2) && (O.typ != 3)) && (O.typ != 4)) && (O.typ != 7))) || (decide (O.alg < 0))) || (decide (100 < O.alg))) || (decide (O.len < 0))) || (decide (100000 < O.len))) || (decide (O.mask < 0))) || (decide (1048575 < O.mask))) || (decide ((128 : Int) < (s.mat.n : Int)))); rw [hp]; rfl)
              clear hp
              go_simp; exact hK _ _ (Grow.refl _) hv.out
          · intro w1 hg Ar seen
            have e59 := seen.de 59 71
            refine does_plain rfl fun K Q' hK => ?_
            go_simp; exact hK _ _ (Grow.refl _) rfl
          · intro w1 hg Ar seen
            have s1 := seen.sl 1 (.pointer (some ⟨b, 0, none⟩))
            have eg := seen.de 60 72
            by_cases hc0 : ((((((((((!(isT O.id)) || ((((O.typ != 2) && (O.typ != 3)) && (O.typ != 4)) && (O.typ != 7))) || (decide (O.alg < 0))) || (decide (100 < O.alg))) || (decide (O.len < 0))) || (decide (100000 < O.len))) || (decide (O.mask < 0))) || (decide (1048575 < O.mask))) || (decide ((128 : Int) < (s.mat.n : Int)))) : Bool) = true
            · have hc := hc0
              clear hc0
              rw [hc] at eg
              have hWi : (!(((((((((!(isT O.id)) || ((((O.typ != 2) && (O.typ != 3)) && (O.typ != 4)) && (O.typ != 7))) || (decide (O.alg < 0))) || (decide (100 < O.alg))) || (decide (O.len < 0))) || (decide (100000 < O.len))) || (decide (O.mask < 0))) || (decide (1048575 < O.mask))) || (decide ((128 : Int) < (s.mat.n : Int))))) = false := by rw [hc]; rfl
              exact does_off rfl (by kernel_rfl) eg ne_tf (Grow.refl _) (show undef = _ from (if_f hWi).symm)
            · have hc : ((((((((((!(isT O.id)) || ((((O.typ != 2) && (O.typ != 3)) && (O.typ != 4)) && (O.typ != 7))) || (decide (O.alg < 0))) || (decide (100 < O.alg))) || (decide (O.len < 0))) || (decide (100000 < O.len))) || (decide (O.mask < 0))) || (decide (1048575 < O.mask))) || (decide ((128 : Int) < (s.mat.n : Int)))) : Bool) = false := by rw [← Bool.not_eq_true]; exact hc0
              clear hc0
              rw [hc] at eg
              have hWi : (!(((((((((!(isT O.id)) || ((((O.typ != 2) && (O.typ != 3)) && (O.typ != 4)) && (O.typ != 7))) || (decide (O.alg < 0))) || (decide (100 < O.alg))) || (decide (O.len < 0))) || (decide (100000 < O.len))) || (decide (O.mask < 0))) || (decide (1048575 < O.mask))) || (decide ((128 : Int) < (s.mat.n : Int))))) = true := by rw [hc]; rfl
              refine does_on rfl (by kernel_rfl) eg fun K Q' hK => ?_
              clear eg
              have hf : Hid ((.pointer (some ⟨b, 6, none⟩) : Value) = (if (!(((((((((!(isT O.id)) || ((((O.typ != 2) && (O.typ != 3)) && (O.typ != 4)) && (O.typ != 7))) || (decide (O.alg < 0))) || (decide (100 < O.alg))) || (decide (O.len < 0))) || (decide (100000 < O.len))) || (decide (O.mask < 0))) || (decide (1048575 < O.mask))) || (decide ((128 : Int) < (s.mat.n : Int))))) = true then .pointer (some ⟨b, 6, none⟩) else undef)) := (if_t hWi).symm
              clear hWi hc
              go_simp; exact hK _ _ (Grow.refl _) hf.out
          · intro w1 hg Ar seen
            have e61 := seen.de 61 73
            have eg := seen.de 60 72
            by_cases hc0 : ((((((((((!(isT O.id)) || ((((O.typ != 2) && (O.typ != 3)) && (O.typ != 4)) && (O.typ != 7))) || (decide (O.alg < 0))) || (decide (100 < O.alg))) || (decide (O.len < 0))) || (decide (100000 < O.len))) || (decide (O.mask < 0))) || (decide (1048575 < O.mask))) || (decide ((128 : Int) < (s.mat.n : Int)))) : Bool) = true
            · have hc := hc0
              clear hc0
              rw [hc] at eg
              have hWi : (!(((((((((!(isT O.id)) || ((((O.typ != 2) && (O.typ != 3)) && (O.typ != 4)) && (O.typ != 7))) || (decide (O.alg < 0))) || (decide (100 < O.alg))) || (decide (O.len < 0))) || (decide (100000 < O.len))) || (decide (O.mask < 0))) || (decide (1048575 < O.mask))) || (decide ((128 : Int) < (s.mat.n : Int))))) = false := by rw [hc]; rfl
              exact does_off rfl (by kernel_rfl) eg ne_tf (Grow.refl _) (show undef = _ from (if_f hWi).symm)
            · have hc : ((((((((((!(isT O.id)) || ((((O.typ != 2) && (O.typ != 3)) && (O.typ != 4)) && (O.typ != 7))) || (decide (O.alg < 0))) || (decide (100 < O.alg))) || (decide (O.len < 0))) || (decide (100000 < O.len))) || (decide (O.mask < 0))) || (decide (1048575 < O.mask))) || (decide ((128 : Int) < (s.mat.n : Int)))) : Bool) = false := by rw [← Bool.not_eq_true]; exact hc0
              clear hc0
              rw [hc] at eg
              have hWi : (!(((((((((!(isT O.id)) || ((((O.typ != 2) && (O.typ != 3)) && (O.typ != 4)) && (O.typ != 7))) || (decide (O.alg < 0))) || (decide (100 < O.alg))) || (decide (O.len < 0))) || (decide (100000 < O.len))) || (decide (O.mask < 0))) || (decide (1048575 < O.mask))) || (decide ((128 : Int) < (s.mat.n : Int))))) = true := by rw [hc]; rfl
              refine does_on rfl (by kernel_rfl) eg fun K Q' hK => ?_
              clear eg
              replace e61 := e61.trans (congrArg some (if_t hWi))
              have hf : Hid ((.int .i64 O.st : Value) = (if (!(((((((((!(isT O.id)) || ((((O.typ != 2) && (O.typ != 3)) && (O.typ != 4)) && (O.typ != 7))) || (decide (O.alg < 0))) || (decide (100 < O.alg))) || (decide (O.len < 0))) || (decide (100000 < O.len))) || (decide (O.mask < 0))) || (decide (1048575 < O.mask))) || (decide ((128 : Int) < (s.mat.n : Int))))) = true then .int .i64 O.st else undef)) := (if_t hWi).symm
              clear hWi hc
              have hc0 := cell_of_block (j := 6) ((hg.block _ (block_lt S.out.box)).trans S.out.box) (oc6 O s)
              go_simp; exact hK _ _ (Grow.refl _) hf.out
          · intro w1 hg Ar seen
            have e62 := seen.de 62 74
            have eg := seen.de 60 72
            by_cases hc0 : ((((((((((!(isT O.id)) || ((((O.typ != 2) && (O.typ != 3)) && (O.typ != 4)) && (O.typ != 7))) || (decide (O.alg < 0))) || (decide (100 < O.alg))) || (decide (O.len < 0))) || (decide (100000 < O.len))) || (decide (O.mask < 0))) || (decide (1048575 < O.mask))) || (decide ((128 : Int) < (s.mat.n : Int)))) : Bool) = true
            · have hc := hc0
              clear hc0
              rw [hc] at eg
              have hWi : (!(((((((((!(isT O.id)) || ((((O.typ != 2) && (O.typ != 3)) && (O.typ != 4)) && (O.typ != 7))) || (decide (O.alg < 0))) || (decide (100 < O.alg))) || (decide (O.len < 0))) || (decide (100000 < O.len))) || (decide (O.mask < 0))) || (decide (1048575 < O.mask))) || (decide ((128 : Int) < (s.mat.n : Int))))) = false := by rw [hc]; rfl
              exact does_off rfl (by kernel_rfl) eg ne_tf (Grow.refl _) (show undef = _ from (if_f hWi).symm)
            · have hc : ((((((((((!(isT O.id)) || ((((O.typ != 2) && (O.typ != 3)) && (O.typ != 4)) && (O.typ != 7))) || (decide (O.alg < 0))) || (decide (100 < O.alg))) || (decide (O.len < 0))) || (decide (100000 < O.len))) || (decide (O.mask < 0))) || (decide (1048575 < O.mask))) || (decide ((128 : Int) < (s.mat.n : Int)))) : Bool) = false := by rw [← Bool.not_eq_true]; exact hc0
              clear hc0
              rw [hc] at eg
              have hWi : (!(((((((((!(isT O.id)) || ((((O.typ != 2) && (O.typ != 3)) && (O.typ != 4)) && (O.typ != 7))) || (decide (O.alg < 0))) || (decide (100 < O.alg))) || (decide (O.len < 0))) || (decide (100000 < O.len))) || (decide (O.mask < 0))) || (decide (1048575 < O.mask))) || (decide ((128 : Int) < (s.mat.n : Int))))) = true := by rw [hc]; rfl
              refine does_on rfl (by kernel_rfl) eg fun K Q' hK => ?_
              clear eg
              replace e62 := e62.trans (congrArg some (if_t hWi))
              have hf : Hid ((.bool (decide (O.st < 1)) : Value) = (if (!(((((((((!(isT O.id)) || ((((O.typ != 2) && (O.typ != 3)) && (O.typ != 4)) && (O.typ != 7))) || (decide (O.alg < 0))) || (decide (100 < O.alg))) || (decide (O.len < 0))) || (decide (100000 < O.len))) || (decide (O.mask < 0))) || (decide (1048575 < O.mask))) || (decide ((128 : Int) < (s.mat.n : Int))))) = true then .bool (decide (O.st < 1)) else undef)) := (if_t hWi).symm
              clear hWi hc
              go_simp; exact hK _ _ (Grow.refl _) hf.out
          · intro w1 hg Ar seen
            have e60 := seen.de 60 72
            have e63 := seen.de 63 75
            refine does_plain rfl fun K Q' hK => ?_
            by_cases hp0 : ((((((((((!(isT O.id)) || ((((O.typ != 2) && (O.typ != 3)) && (O.typ != 4)) && (O.typ != 7))) || (decide (O.alg < 0))) || (decide (100 < O.alg))) || (decide (O.len < 0))) || (decide (100000 < O.len))) || (decide (O.mask < 0))) || (decide (1048575 < O.mask))) || (decide ((128 : Int) < (s.mat.n : Int)))) : Bool) = true
            · have hp := hp0
              clear hp0
              rw [hp] at e60
              clear e63
              have hv := hid (by show (Value.bool true) = .bool ((((((((((!(isT O.id)) || ((((O.typ != 2) && (O.typ != 3)) && (O.typ != 4)) && (O.typ != 7))) || (decide (O.alg < 0))) || (decide (100 < O.alg))) || (decide (O.len < 0))) || (decide (100000 < O.len))) || (decide (O.mask < 0))) || (decide (1048575 < O.mask))) || (decide ((128 : Int) < (s.mat.n : Int)))) || (decide (O.st < 1))); rw [hp]; rfl)
              clear hp
              go_simp; exact hK _ _ (Grow.refl _) hv.out
            · have hp : ((((((((((!(isT O.id)) || ((((O.typ != 2) && (O.typ != 3)) && (O.typ != 4)) && (O.typ != 7))) || (decide (O.alg < 0))) || (decide (100 < O.alg))) || (decide (O.len < 0))) || (decide (100000 < O.len))) || (decide (O.mask < 0))) || (decide (1048575 < O.mask))) || (decide ((128 : Int) < (s.mat.n : Int)))) : Bool) = false := by rw [← Bool.not_eq_true]; exact hp0
              clear hp0
              rw [hp] at e60
              replace e63 := e63.trans (congrArg some (if_t (by rw [hp]; rfl)))
              have hv := hid (by show (Value.bool (decide (O.st < 1))) = .bool ((((((((((!(isT O.id)) || ((((O.typ != 2) && (O.typ != 3)) && (O.typ != 4)) && (O.typ != 7))) || (decide (O.alg < 0))) || (decide (100 < O.alg))) || (decide (O.len < 0))) || (decide (100000 < O.len))) || (decide (O.mask < 0))) || (decide (1048575 < O.mask))) || (decide ((128 : Int) < (s.mat.n : Int)))) || (decide (O.st < 1))); rw [hp]; rfl)
              clear hp
              go_simp; exact hK _ _ (Grow.refl _) hv.out
          · intro w1 hg Ar seen
            have e64 := seen.de 64 76
            refine does_plain rfl fun K Q' hK => ?_
            go_simp; exact hK _ _ (Grow.refl _) rfl
          · intro w1 hg Ar seen
            have s1 := seen.sl 1 (.pointer (some ⟨b, 0, none⟩))
            have eg := seen.de 65 77
            by_cases hc0 : (((((((((((!(isT O.id)) || ((((O.typ != 2) && (O.typ != 3)) && (O.typ != 4)) && (O.typ != 7))) || (decide (O.alg < 0))) || (decide (100 < O.alg))) || (decide (O.len < 0))) || (decide (100000 < O.len))) || (decide (O.mask < 0))) || (decide (1048575 < O.mask))) || (decide ((128 : Int) < (s.mat.n : Int)))) || (decide (O.st < 1))) : Bool) = true
            · have hc := hc0
              clear hc0
              rw [hc] at eg
              have hWi : (!((((((((((!(isT O.id)) || ((((O.typ != 2) && (O.typ != 3)) && (O.typ != 4)) && (O.typ != 7))) || (decide (O.alg < 0))) || (decide (100 < O.alg))) || (decide (O.len < 0))) || (decide (100000 < O.len))) || (decide (O.mask < 0))) || (decide (1048575 < O.mask))) || (decide ((128 : Int) < (s.mat.n : Int)))) || (decide (O.st < 1)))) = false := by rw [hc]; rfl
              exact does_off rfl (by kernel_rfl) eg ne_tf (Grow.refl _) (show undef = _ from (if_f hWi).symm)
            · have hc : (((((((((((!(isT O.id)) || ((((O.typ != 2) && (O.typ != 3)) && (O.typ != 4)) && (O.typ != 7))) || (decide (O.alg < 0))) || (decide (100 < O.alg))) || (decide (O.len < 0))) || (decide (100000 < O.len))) || (decide (O.mask < 0))) || (decide (1048575 < O.mask))) || (decide ((128 : Int) < (s.mat.n : Int)))) || (decide (O.st < 1))) : Bool) = false := by rw [← Bool.not_eq_true]; exact hc0
              clear hc0
              rw [hc] at eg
              have hWi : (!((((((((((!(isT O.id)) || ((((O.typ != 2) && (O.typ != 3)) && (O.typ != 4)) && (O.typ != 7))) || (decide (O.alg < 0))) || (decide (100 < O.alg))) || (decide (O.len < 0))) || (decide (100000 < O.len))) || (decide (O.mask < 0))) || (decide (1048575 < O.mask))) || (decide ((128 : Int) < (s.mat.n : Int)))) || (decide (O.st < 1)))) = true := by rw [hc]; rfl
              refine does_on rfl (by kernel_rfl) eg fun K Q' hK => ?_
              clear eg
              have hf : Hid ((.pointer (some ⟨b, 6, none⟩) : Value) = (if (!((((((((((!(isT O.id)) || ((((O.typ != 2) && (O.typ != 3)) && (O.typ != 4)) && (O.typ != 7))) || (decide (O.alg < 0))) || (decide (100 < O.alg))) || (decide (O.len < 0))) || (decide (100000 < O.len))) || (decide (O.mask < 0))) || (decide (1048575 < O.mask))) || (decide ((128 : Int) < (s.mat.n : Int)))) || (decide (O.st < 1)))) = true then .pointer (some ⟨b, 6, none⟩) else undef)) := (if_t hWi).symm
              clear hWi hc
              go_simp; exact hK _ _ (Grow.refl _) hf.out
          · intro w1 hg Ar seen
            have e66 := seen.de 66 78
            have eg := seen.de 65 77
            by_cases hc0 : (((((((((((!(isT O.id)) || ((((O.typ != 2) && (O.typ != 3)) && (O.typ != 4)) && (O.typ != 7))) || (decide (O.alg < 0))) || (decide (100 < O.alg))) || (decide (O.len < 0))) || (decide (100000 < O.len))) || (decide (O.mask < 0))) || (decide (1048575 < O.mask))) || (decide ((128 : Int) < (s.mat.n : Int)))) || (decide (O.st < 1))) : Bool) = true
            · have hc := hc0
              clear hc0
              rw [hc] at eg
              have hWi : (!((((((((((!(isT O.id)) || ((((O.typ != 2) && (O.typ != 3)) && (O.typ != 4)) && (O.typ != 7))) || (decide (O.alg < 0))) || (decide (100 < O.alg))) || (decide (O.len < 0))) || (decide (100000 < O.len))) || (decide (O.mask < 0))) || (decide (1048575 < O.mask))) || (decide ((128 : Int) < (s.mat.n : Int)))) || (decide (O.st < 1)))) = false := by rw [hc]; rfl
              exact does_off rfl (by kernel_rfl) eg ne_tf (Grow.refl _) (show undef = _ from (if_f hWi).symm)
            · have hc : (((((((((((!(isT O.id)) || ((((O.typ != 2) && (O.typ != 3)) && (O.typ != 4)) && (O.typ != 7))) || (decide (O.alg < 0))) || (decide (100 < O.alg))) || (decide (O.len < 0))) || (decide (100000 < O.len))) || (decide (O.mask < 0))) || (decide (1048575 < O.mask))) || (decide ((128 : Int) < (s.mat.n : Int)))) || (decide (O.st < 1))) : Bool) = false := by rw [← Bool.not_eq_true]; exact hc0
              clear hc0
              rw [hc] at eg
              have hWi : (!((((((((((!(isT O.id)) || ((((O.typ != 2) && (O.typ != 3)) && (O.typ != 4)) && (O.typ != 7))) || (decide (O.alg < 0))) || (decide (100 < O.alg))) || (decide (O.len < 0))) || (decide (100000 < O.len))) || (decide (O.mask < 0))) || (decide (1048575 < O.mask))) || (decide ((128 : Int) < (s.mat.n : Int)))) || (decide (O.st < 1)))) = true := by rw [hc]; rfl
              refine does_on rfl (by kernel_rfl) eg fun K Q' hK => ?_
              clear eg
              replace e66 := e66.trans (congrArg some (if_t hWi))
              have hf : Hid ((.int .i64 O.st : Value) = (if (!((((((((((!(isT O.id)) || ((((O.typ != 2) && (O.typ != 3)) && (O.typ != 4)) && (O.typ != 7))) || (decide (O.alg < 0))) || (decide (100 < O.alg))) || (decide (O.len < 0))) || (decide (100000 < O.len))) || (decide (O.mask < 0))) || (decide (1048575 < O.mask))) || (decide ((128 : Int) < (s.mat.n : Int)))) || (decide (O.st < 1)))) = true then .int .i64 O.st else undef)) := (if_t hWi).symm
              clear hWi hc
              have hc0 := cell_of_block (j := 6) ((hg.block _ (block_lt S.out.box)).trans S.out.box) (oc6 O s)
              go_simp; exact hK _ _ (Grow.refl _) hf.out
          · intro w1 hg Ar seen
            have e67 := seen.de 67 79
            have eg := seen.de 65 77
            by_cases hc0 : (((((((((((!(isT O.id)) || ((((O.typ != 2) && (O.typ != 3)) && (O.typ != 4)) && (O.typ != 7))) || (decide (O.alg < 0))) || (decide (100 < O.alg))) || (decide (O.len < 0))) || (decide (100000 < O.len))) || (decide (O.mask < 0))) || (decide (1048575 < O.mask))) || (decide ((128 : Int) < (s.mat.n : Int)))) || (decide (O.st < 1))) : Bool) = true
            · have hc := hc0
              clear hc0
              rw [hc] at eg
              have hWi : (!((((((((((!(isT O.id)) || ((((O.typ != 2) && (O.typ != 3)) && (O.typ != 4)) && (O.typ != 7))) || (decide (O.alg < 0))) || (decide (100 < O.alg))) || (decide (O.len < 0))) || (decide (100000 < O.len))) || (decide (O.mask < 0))) || (decide (1048575 < O.mask))) || (decide ((128 : Int) < (s.mat.n : Int)))) || (decide (O.st < 1)))) = false := by rw [hc]; rfl
              exact does_off rfl (by kernel_rfl) eg ne_tf (Grow.refl _) (show undef = _ from (if_f hWi).symm)
            · have hc : (((((((((((!(isT O.id)) || ((((O.typ != 2) && (O.typ != 3)) && (O.typ != 4)) && (O.typ != 7))) || (decide (O.alg < 0))) || (decide (100 < O.alg))) || (decide (O.len < 0))) || (decide (100000 < O.len))) || (decide (O.mask < 0))) || (decide (1048575 < O.mask))) || (decide ((128 : Int) < (s.mat.n : Int)))) || (decide (O.st < 1))) : Bool) = false := by rw [← Bool.not_eq_true]; exact hc0
              clear hc0
              rw [hc] at eg
              have hWi : (!((((((((((!(isT O.id)) || ((((O.typ != 2) && (O.typ != 3)) && (O.typ != 4)) && (O.typ != 7))) || (decide (O.alg < 0))) || (decide (100 < O.alg))) || (decide (O.len < 0))) || (decide (100000 < O.len))) || (decide (O.mask < 0))) || (decide (1048575 < O.mask))) || (decide ((128 : Int) < (s.mat.n : Int)))) || (decide (O.st < 1)))) = true := by rw [hc]; rfl
              refine does_on rfl (by kernel_rfl) eg fun K Q' hK => ?_
              clear eg
              replace e67 := e67.trans (congrArg some (if_t hWi))
              have hf : Hid ((.bool (decide (6 < O.st)) : Value) = (if (!((((((((((!(isT O.id)) || ((((O.typ != 2) && (O.typ != 3)) && (O.typ != 4)) && (O.typ != 7))) || (decide (O.alg < 0))) || (decide (100 < O.alg))) || (decide (O.len < 0))) || (decide (100000 < O.len))) || (decide (O.mask < 0))) || (decide (1048575 < O.mask))) || (decide ((128 : Int) < (s.mat.n : Int)))) || (decide (O.st < 1)))) = true then .bool (decide (6 < O.st)) else undef)) := (if_t hWi).symm
              clear hWi hc
              go_simp; exact hK _ _ (Grow.refl _) hf.out
          · intro w1 hg Ar seen
            have e65 := seen.de 65 77
            have e68 := seen.de 68 80
            refine does_plain rfl fun K Q' hK => ?_
            by_cases hp0 : (((((((((((!(isT O.id)) || ((((O.typ != 2) && (O.typ != 3)) && (O.typ != 4)) && (O.typ != 7))) || (decide (O.alg < 0))) || (decide (100 < O.alg))) || (decide (O.len < 0))) || (decide (100000 < O.len))) || (decide (O.mask < 0))) || (decide (1048575 < O.mask))) || (decide ((128 : Int) < (s.mat.n : Int)))) || (decide (O.st < 1))) : Bool) = true
            · have hp := hp0
              clear hp0
              rw [hp] at e65
              clear e68
              have hv := hid (by show (Value.bool true) = .bool (((((((((((!(isT O.id)) || ((((O.typ != 2) && (O.typ != 3)) && (O.typ != 4)) && (O.typ != 7))) || (decide (O.alg < 0))) || (decide (100 < O.alg))) || (decide (O.len < 0))) || (decide (100000 < O.len))) || (decide (O.mask < 0))) || (decide (1048575 < O.mask))) || (decide ((128 : Int) < (s.mat.n : Int)))) || (decide (O.st < 1))) || (decide (6 < O.st))); rw [hp]; rfl)
              clear hp
              go_simp; exact hK _ _ (Grow.refl _) hv.out
            · have hp : (((((((((((!(isT O.id)) || ((((O.typ != 2) && (O.typ != 3)) && (O.typ != 4)) && (O.typ != 7))) || (decide (O.alg < 0))) || (decide (100 < O.alg))) || (decide (O.len < 0))) || (decide (100000 < O.len))) || (decide (O.mask < 0))) || (decide (1048575 < O.mask))) || (decide ((128 : Int) < (s.mat.n : Int)))) || (decide (O.st < 1))) : Bool) = false := by rw [← Bool.not_eq_true]; exact hp0
              clear hp0
              rw [hp] at e65
              replace e68 := e68.trans (congrArg some (if_t (by rw [hp]; rfl)))
              have hv := hid (by show (Value.bool (decide (6 < O.st))) = .bool (((((((((((!(isT O.id)) || ((((O.typ != 2) && (O.typ != 3)) && (O.typ != 4)) && (O.typ != 7))) || (decide (O.alg < 0))) || (decide (100 < O.alg))) || (decide (O.len < 0))) || (decide (100000 < O.len))) || (decide (O.mask < 0))) || (decide (1048575 < O.mask))) || (decide ((128 : Int) < (s.mat.n : Int)))) || (decide (O.st < 1))) || (decide (6 < O.st))); rw [hp]; rfl)
              clear hp
              go_simp; exact hK _ _ (Grow.refl _) hv.out
          · intro w1 hg Ar seen
            have e69 := seen.de 69 81
            refine does_plain rfl fun K Q' hK => ?_
            go_simp; exact hK _ _ (Grow.refl _) rfl
          · intro w1 hg Ar seen
            have s1 := seen.sl 1 (.pointer (some ⟨b, 0, none⟩))
            have eg := seen.de 70 82
            by_cases hc0 : ((((((((((((!(isT O.id)) || ((((O.typ != 2) && (O.typ != 3)) && (O.typ != 4)) && (O.typ != 7))) || (decide (O.alg < 0))) || (decide (100 < O.alg))) || (decide (O.len < 0))) || (decide (100000 < O.len))) || (decide (O.mask < 0))) || (decide (1048575 < O.mask))) || (decide ((128 : Int) < (s.mat.n : Int)))) || (decide (O.st < 1))) || (decide (6 < O.st))) : Bool) = true
            · have hc := hc0
              clear hc0
              rw [hc] at eg
              have hWi : (!(((((((((((!(isT O.id)) || ((((O.typ != 2) && (O.typ != 3)) && (O.typ != 4)) && (O.typ != 7))) || (decide (O.alg < 0))) || (decide (100 < O.alg))) || (decide (O.len < 0))) || (decide (100000 < O.len))) || (decide (O.mask < 0))) || (decide (1048575 < O.mask))) || (decide ((128 : Int) < (s.mat.n : Int)))) || (decide (O.st < 1))) || (decide (6 < O.st)))) = false := by rw [hc]; rfl
              exact does_off rfl (by kernel_rfl) eg ne_tf (Grow.refl _) (show undef = _ from (if_f hWi).symm)
            · have hc : ((((((((((((!(isT O.id)) || ((((O.typ != 2) && (O.typ != 3)) && (O.typ != 4)) && (O.typ != 7))) || (decide (O.alg < 0))) || (decide (100 < O.alg))) || (decide (O.len < 0))) || (decide (100000 < O.len))) || (decide (O.mask < 0))) || (decide (1048575 < O.mask))) || (decide ((128 : Int) < (s.mat.n : Int)))) || (decide (O.st < 1))) || (decide (6 < O.st))) : Bool) = false := by rw [← Bool.not_eq_true]; exact hc0
              clear hc0
              rw [hc] at eg
              have hWi : (!(((((((((((!(isT O.id)) || ((((O.typ != 2) && (O.typ != 3)) && (O.typ != 4)) && (O.typ != 7))) || (decide (O.alg < 0))) || (decide (100 < O.alg))) || (decide (O.len < 0))) || (decide (100000 < O.len))) || (decide (O.mask < 0))) || (decide (1048575 < O.mask))) || (decide ((128 : Int) < (s.mat.n : Int)))) || (decide (O.st < 1))) || (decide (6 < O.st)))) = true := by rw [hc]; rfl
              refine does_on rfl (by kernel_rfl) eg fun K Q' hK => ?_
              clear eg
              have hf : Hid ((.pointer (some ⟨b, 27, none⟩) : Value) = (if (!(((((((((((!(isT O.id)) || ((((O.typ != 2) && (O.typ != 3)) && (O.typ != 4)) && (O.typ != 7))) || (decide (O.alg < 0))) || (decide (100 < O.alg))) || (decide (O.len < 0))) || (decide (100000 < O.len))) || (decide (O.mask < 0))) || (decide (1048575 < O.mask))) || (decide ((128 : Int) < (s.mat.n : Int)))) || (decide (O.st < 1))) || (decide (6 < O.st)))) = true then .pointer (some ⟨b, 27, none⟩) else undef)) := (if_t hWi).symm
              clear hWi hc
              go_simp; exact hK _ _ (Grow.refl _) hf.out
          · intro w1 hg Ar seen
            have e71 := seen.de 71 83
            have eg := seen.de 70 82
            by_cases hc0 : ((((((((((((!(isT O.id)) || ((((O.typ != 2) && (O.typ != 3)) && (O.typ != 4)) && (O.typ != 7))) || (decide (O.alg < 0))) || (decide (100 < O.alg))) || (decide (O.len < 0))) || (decide (100000 < O.len))) || (decide (O.mask < 0))) || (decide (1048575 < O.mask))) || (decide ((128 : Int) < (s.mat.n : Int)))) || (decide (O.st < 1))) || (decide (6 < O.st))) : Bool) = true
            · have hc := hc0
              clear hc0
              rw [hc] at eg
              have hWi : (!(((((((((((!(isT O.id)) || ((((O.typ != 2) && (O.typ != 3)) && (O.typ != 4)) && (O.typ != 7))) || (decide (O.alg < 0))) || (decide (100 < O.alg))) || (decide (O.len < 0))) || (decide (100000 < O.len))) || (decide (O.mask < 0))) || (decide (1048575 < O.mask))) || (decide ((128 : Int) < (s.mat.n : Int)))) || (decide (O.st < 1))) || (decide (6 < O.st)))) = false := by rw [hc]; rfl
              exact does_off rfl (by kernel_rfl) eg ne_tf (Grow.refl _) (show undef = _ from (if_f hWi).symm)
            · have hc : ((((((((((((!(isT O.id)) || ((((O.typ != 2) && (O.typ != 3)) && (O.typ != 4)) && (O.typ != 7))) || (decide (O.alg < 0))) || (decide (100 < O.alg))) || (decide (O.len < 0))) || (decide (100000 < O.len))) || (decide (O.mask < 0))) || (decide (1048575 < O.mask))) || (decide ((128 : Int) < (s.mat.n : Int)))) || (decide (O.st < 1))) || (decide (6 < O.st))) : Bool) = false := by rw [← Bool.not_eq_true]; exact hc0
              clear hc0
              rw [hc] at eg
              have hWi : (!(((((((((((!(isT O.id)) || ((((O.typ != 2) && (O.typ != 3)) && (O.typ != 4)) && (O.typ != 7))) || (decide (O.alg < 0))) || (decide (100 < O.alg))) || (decide (O.len < 0))) || (decide (100000 < O.len))) || (decide (O.mask < 0))) || (decide (1048575 < O.mask))) || (decide ((128 : Int) < (s.mat.n : Int)))) || (decide (O.st < 1))) || (decide (6 < O.st)))) = true := by rw [hc]; rfl
              refine does_on rfl (by kernel_rfl) eg fun K Q' hK => ?_
              clear eg
              replace e71 := e71.trans (congrArg some (if_t hWi))
              have hf : Hid ((.int .i64 O.reason : Value) = (if (!(((((((((((!(isT O.id)) || ((((O.typ != 2) && (O.typ != 3)) && (O.typ != 4)) && (O.typ != 7))) || (decide (O.alg < 0))) || (decide (100 < O.alg))) || (decide (O.len < 0))) || (decide (100000 < O.len))) || (decide (O.mask < 0))) || (decide (1048575 < O.mask))) || (decide ((128 : Int) < (s.mat.n : Int)))) || (decide (O.st < 1))) || (decide (6 < O.st)))) = true then .int .i64 O.reason else undef)) := (if_t hWi).symm
              clear hWi hc
              have hc0 := cell_of_block (j := 27) ((hg.block _ (block_lt S.out.box)).trans S.out.box) (oc27 O s)
              go_simp; exact hK _ _ (Grow.refl _) hf.out
          · intro w1 hg Ar seen
            have e72 := seen.de 72 84
            have eg := seen.de 70 82
            by_cases hc0 : ((((((((((((!(isT O.id)) || ((((O.typ != 2) && (O.typ != 3)) && (O.typ != 4)) && (O.typ != 7))) || (decide (O.alg < 0))) || (decide (100 < O.alg))) || (decide (O.len < 0))) || (decide (100000 < O.len))) || (decide (O.mask < 0))) || (decide (1048575 < O.mask))) || (decide ((128 : Int) < (s.mat.n : Int)))) || (decide (O.st < 1))) || (decide (6 < O.st))) : Bool) = true
            · have hc := hc0
              clear hc0
              rw [hc] at eg
              have hWi : (!(((((((((((!(isT O.id)) || ((((O.typ != 2) && (O.typ != 3)) && (O.typ != 4)) && (O.typ != 7))) || (decide (O.alg < 0))) || (decide (100 < O.alg))) || (decide (O.len < 0))) || (decide (100000 < O.len))) || (decide (O.mask < 0))) || (decide (1048575 < O.mask))) || (decide ((128 : Int) < (s.mat.n : Int)))) || (decide (O.st < 1))) || (decide (6 < O.st)))) = false := by rw [hc]; rfl
              exact does_off rfl (by kernel_rfl) eg ne_tf (Grow.refl _) (show undef = _ from (if_f hWi).symm)
            · have hc : ((((((((((((!(isT O.id)) || ((((O.typ != 2) && (O.typ != 3)) && (O.typ != 4)) && (O.typ != 7))) || (decide (O.alg < 0))) || (decide (100 < O.alg))) || (decide (O.len < 0))) || (decide (100000 < O.len))) || (decide (O.mask < 0))) || (decide (1048575 < O.mask))) || (decide ((128 : Int) < (s.mat.n : Int)))) || (decide (O.st < 1))) || (decide (6 < O.st))) : Bool) = false := by rw [← Bool.not_eq_true]; exact hc0
              clear hc0
              rw [hc] at eg
              have hWi : (!(((((((((((!(isT O.id)) || ((((O.typ != 2) && (O.typ != 3)) && (O.typ != 4)) && (O.typ != 7))) || (decide (O.alg < 0))) || (decide (100 < O.alg))) || (decide (O.len < 0))) || (decide (100000 < O.len))) || (decide (O.mask < 0))) || (decide (1048575 < O.mask))) || (decide ((128 : Int) < (s.mat.n : Int)))) || (decide (O.st < 1))) || (decide (6 < O.st)))) = true := by rw [hc]; rfl
              refine does_on rfl (by kernel_rfl) eg fun K Q' hK => ?_
              clear eg
              replace e72 := e72.trans (congrArg some (if_t hWi))
              have hf : Hid ((.bool (decide (O.reason < 0)) : Value) = (if (!(((((((((((!(isT O.id)) || ((((O.typ != 2) && (O.typ != 3)) && (O.typ != 4)) && (O.typ != 7))) || (decide (O.alg < 0))) || (decide (100 < O.alg))) || (decide (O.len < 0))) || (decide (100000 < O.len))) || (decide (O.mask < 0))) || (decide (1048575 < O.mask))) || (decide ((128 : Int) < (s.mat.n : Int)))) || (decide (O.st < 1))) || (decide (6 < O.st)))) = true then .bool (decide (O.reason < 0)) else undef)) := (if_t hWi).symm
              clear hWi hc
              go_simp; exact hK _ _ (Grow.refl _) hf.out
          · intro w1 hg Ar seen
            have e70 := seen.de 70 82
            have e73 := seen.de 73 85
            refine does_plain rfl fun K Q' hK => ?_
            by_cases hp0 : ((((((((((((!(isT O.id)) || ((((O.typ != 2) && (O.typ != 3)) && (O.typ != 4)) && (O.typ != 7))) || (decide (O.alg < 0))) || (decide (100 < O.alg))) || (decide (O.len < 0))) || (decide (100000 < O.len))) || (decide (O.mask < 0))) || (decide (1048575 < O.mask))) || (decide ((128 : Int) < (s.mat.n : Int)))) || (decide (O.st < 1))) || (decide (6 < O.st))) : Bool) = true
            · have hp := hp0
              clear hp0
              rw [hp] at e70
              clear e73
              have hv := hid (by show (Value.bool true) = .bool ((((((((((((!(isT O.id)) || ((((O.typ != 2) && (O.typ != 3)) && (O.typ != 4)) && (O.typ != 7))) || (decide (O.alg < 0))) || (decide (100 < O.alg))) || (decide (O.len < 0))) || (decide (100000 < O.len))) || (decide (O.mask < 0))) || (decide (1048575 < O.mask))) || (decide ((128 : Int) < (s.mat.n : Int)))) || (decide (O.st < 1))) || (decide (6 < O.st))) || (decide (O.reason < 0))); rw [hp]; rfl)
              clear hp
              go_simp; exact hK _ _ (Grow.refl _) hv.out
            · have hp : ((((((((((((!(isT O.id)) || ((((O.typ != 2) && (O.typ != 3)) && (O.typ != 4)) && (O.typ != 7))) || (decide (O.alg < 0))) || (decide (100 < O.alg))) || (decide (O.len < 0))) || (decide (100000 < O.len))) || (decide (O.mask < 0))) || (decide (1048575 < O.mask))) || (decide ((128 : Int) < (s.mat.n : Int)))) || (decide (O.st < 1))) || (decide (6 < O.st))) : Bool) = false := by rw [← Bool.not_eq_true]; exact hp0
              clear hp0
              rw [hp] at e70
              replace e73 := e73.trans (congrArg some (if_t (by rw [hp]; rfl)))
              have hv := hid (by show (Value.bool (decide (O.reason < 0))) = .bool ((((((((((((!(isT O.id)) || ((((O.typ != 2) && (O.typ != 3)) && (O.typ != 4)) && (O.typ != 7))) || (decide (O.alg < 0))) || (decide (100 < O.alg))) || (decide (O.len < 0))) || (decide (100000 < O.len))) || (decide (O.mask < 0))) || (decide (1048575 < O.mask))) || (decide ((128 : Int) < (s.mat.n : Int)))) || (decide (O.st < 1))) || (decide (6 < O.st))) || (decide (O.reason < 0))); rw [hp]; rfl)
              clear hp
              go_simp; exact hK _ _ (Grow.refl _) hv.out
          · intro w1 hg Ar seen
            have e74 := seen.de 74 86
            refine does_plain rfl fun K Q' hK => ?_
            go_simp; exact hK _ _ (Grow.refl _) rfl
          · intro w1 hg Ar seen
            have s1 := seen.sl 1 (.pointer (some ⟨b, 0, none⟩))
            have eg := seen.de 75 87
            by_cases hc0 : (((((((((((((!(isT O.id)) || ((((O.typ != 2) && (O.typ != 3)) && (O.typ != 4)) && (O.typ != 7))) || (decide (O.alg < 0))) || (decide (100 < O.alg))) || (decide (O.len < 0))) || (decide (100000 < O.len))) || (decide (O.mask < 0))) || (decide (1048575 < O.mask))) || (decide ((128 : Int) < (s.mat.n : Int)))) || (decide (O.st < 1))) || (decide (6 < O.st))) || (decide (O.reason < 0))) : Bool) = true
            · have hc := hc0
              clear hc0
              rw [hc] at eg
              have hWi : (!((((((((((((!(isT O.id)) || ((((O.typ != 2) && (O.typ != 3)) && (O.typ != 4)) && (O.typ != 7))) || (decide (O.alg < 0))) || (decide (100 < O.alg))) || (decide (O.len < 0))) || (decide (100000 < O.len))) || (decide (O.mask < 0))) || (decide (1048575 < O.mask))) || (decide ((128 : Int) < (s.mat.n : Int)))) || (decide (O.st < 1))) || (decide (6 < O.st))) || (decide (O.reason < 0)))) = false := by rw [hc]; rfl
              exact does_off rfl (by kernel_rfl) eg ne_tf (Grow.refl _) (show undef = _ from (if_f hWi).symm)
            · have hc : (((((((((((((!(isT O.id)) || ((((O.typ != 2) && (O.typ != 3)) && (O.typ != 4)) && (O.typ != 7))) || (decide (O.alg < 0))) || (decide (100 < O.alg))) || (decide (O.len < 0))) || (decide (100000 < O.len))) || (decide (O.mask < 0))) || (decide (1048575 < O.mask))) || (decide ((128 : Int) < (s.mat.n : Int)))) || (decide (O.st < 1))) || (decide (6 < O.st))) || (decide (O.reason < 0))) : Bool) = false := by rw [← Bool.not_eq_true]; exact hc0
              clear hc0
              rw [hc] at eg
              have hWi : (!((((((((((((!(isT O.id)) || ((((O.typ != 2) && (O.typ != 3)) && (O.typ != 4)) && (O.typ != 7))) || (decide (O.alg < 0))) || (decide (100 < O.alg))) || (decide (O.len < 0))) || (decide (100000 < O.len))) || (decide (O.mask < 0))) || (decide (1048575 < O.mask))) || (decide ((128 : Int) < (s.mat.n : Int)))) || (decide (O.st < 1))) || (decide (6 < O.st))) || (decide (O.reason < 0)))) = true := by rw [hc]; rfl
              refine does_on rfl (by kernel_rfl) eg fun K Q' hK => ?_
              clear eg
              have hf : Hid ((.pointer (some ⟨b, 27, none⟩) : Value) = (if (!((((((((((((!(isT O.id)) || ((((O.typ != 2) && (O.typ != 3)) && (O.typ != 4)) && (O.typ != 7))) || (decide (O.alg < 0))) || (decide (100 < O.alg))) || (decide (O.len < 0))) || (decide (100000 < O.len))) || (decide (O.mask < 0))) || (decide (1048575 < O.mask))) || (decide ((128 : Int) < (s.mat.n : Int)))) || (decide (O.st < 1))) || (decide (6 < O.st))) || (decide (O.reason < 0)))) = true then .pointer (some ⟨b, 27, none⟩) else undef)) := (if_t hWi).symm
              clear hWi hc
              go_simp; exact hK _ _ (Grow.refl _) hf.out
          · intro w1 hg Ar seen
            have e76 := seen.de 76 88
            have eg := seen.de 75 87
            by_cases hc0 : (((((((((((((!(isT O.id)) || ((((O.typ != 2) && (O.typ != 3)) && (O.typ != 4)) && (O.typ != 7))) || (decide (O.alg < 0))) || (decide (100 < O.alg))) || (decide (O.len < 0))) || (decide (100000 < O.len))) || (decide (O.mask < 0))) || (decide (1048575 < O.mask))) || (decide ((128 : Int) < (s.mat.n : Int)))) || (decide (O.st < 1))) || (decide (6 < O.st))) || (decide (O.reason < 0))) : Bool) = true
            · have hc := hc0
              clear hc0
              rw [hc] at eg
              have hWi : (!((((((((((((!(isT O.id)) || ((((O.typ != 2) && (O.typ != 3)) && (O.typ != 4)) && (O.typ != 7))) || (decide (O.alg < 0))) || (decide (100 < O.alg))) || (decide (O.len < 0))) || (decide (100000 < O.len))) || (decide (O.mask < 0))) || (decide (1048575 < O.mask))) || (decide ((128 : Int) < (s.mat.n : Int)))) || (decide (O.st < 1))) || (decide (6 < O.st))) || (decide (O.reason < 0)))) = false := by rw [hc]; rfl
              exact does_off rfl (by kernel_rfl) eg ne_tf (Grow.refl _) (show undef = _ from (if_f hWi).symm)
            · have hc : (((((((((((((!(isT O.id)) || ((((O.typ != 2) && (O.typ != 3)) && (O.typ != 4)) && (O.typ != 7))) || (decide (O.alg < 0))) || (decide (100 < O.alg))) || (decide (O.len < 0))) || (decide (100000 < O.len))) || (decide (O.mask < 0))) || (decide (1048575 < O.mask))) || (decide ((128 : Int) < (s.mat.n : Int)))) || (decide (O.st < 1))) || (decide (6 < O.st))) || (decide (O.reason < 0))) : Bool) = false := by rw [← Bool.not_eq_true]; exact hc0
              clear hc0
              rw [hc] at eg
              have hWi : (!((((((((((((!(isT O.id)) || ((((O.typ != 2) && (O.typ != 3)) && (O.typ != 4)) && (O.typ != 7))) || (decide (O.alg < 0))) || (decide (100 < O.alg))) || (decide (O.len < 0))) || (decide (100000 < O.len))) || (decide (O.mask < 0))) || (decide (1048575 < O.mask))) || (decide ((128 : Int) < (s.mat.n : Int)))) || (decide (O.st < 1))) || (decide (6 < O.st))) || (decide (O.reason < 0)))) = true := by rw [hc]; rfl
              refine does_on rfl (by kernel_rfl) eg fun K Q' hK => ?_
              clear eg
              replace e76 := e76.trans (congrArg some (if_t hWi))
              have hf : Hid ((.int .i64 O.reason : Value) = (if (!((((((((((((!(isT O.id)) || ((((O.typ != 2) && (O.typ != 3)) && (O.typ != 4)) && (O.typ != 7))) || (decide (O.alg < 0))) || (decide (100 < O.alg))) || (decide (O.len < 0))) || (decide (100000 < O.len))) || (decide (O.mask < 0))) || (decide (1048575 < O.mask))) || (decide ((128 : Int) < (s.mat.n : Int)))) || (decide (O.st < 1))) || (decide (6 < O.st))) || (decide (O.reason < 0)))) = true then .int .i64 O.reason else undef)) := (if_t hWi).symm
              clear hWi hc
              have hc0 := cell_of_block (j := 27) ((hg.block _ (block_lt S.out.box)).trans S.out.box) (oc27 O s)
              go_simp; exact hK _ _ (Grow.refl _) hf.out
          · intro w1 hg Ar seen
            have e77 := seen.de 77 89
            have eg := seen.de 75 87
            by_cases hc0 : (((((((((((((!(isT O.id)) || ((((O.typ != 2) && (O.typ != 3)) && (O.typ != 4)) && (O.typ != 7))) || (decide (O.alg < 0))) || (decide (100 < O.alg))) || (decide (O.len < 0))) || (decide (100000 < O.len))) || (decide (O.mask < 0))) || (decide (1048575 < O.mask))) || (decide ((128 : Int) < (s.mat.n : Int)))) || (decide (O.st < 1))) || (decide (6 < O.st))) || (decide (O.reason < 0))) : Bool) = true
            · have hc := hc0
              clear hc0
              rw [hc] at eg
              have hWi : (!((((((((((((!(isT O.id)) || ((((O.typ != 2) && (O.typ != 3)) && (O.typ != 4)) && (O.typ != 7))) || (decide (O.alg < 0))) || (decide (100 < O.alg))) || (decide (O.len < 0))) || (decide (100000 < O.len))) || (decide (O.mask < 0))) || (decide (1048575 < O.mask))) || (decide ((128 : Int) < (s.mat.n : Int)))) || (decide (O.st < 1))) || (decide (6 < O.st))) || (decide (O.reason < 0)))) = false := by rw [hc]; rfl
              exact does_off rfl (by kernel_rfl) eg ne_tf (Grow.refl _) (show undef = _ from (if_f hWi).symm)
            · have hc : (((((((((((((!(isT O.id)) || ((((O.typ != 2) && (O.typ != 3)) && (O.typ != 4)) && (O.typ != 7))) || (decide (O.alg < 0))) || (decide (100 < O.alg))) || (decide (O.len < 0))) || (decide (100000 < O.len))) || (decide (O.mask < 0))) || (decide (1048575 < O.mask))) || (decide ((128 : Int) < (s.mat.n : Int)))) || (decide (O.st < 1))) || (decide (6 < O.st))) || (decide (O.reason < 0))) : Bool) = false := by rw [← Bool.not_eq_true]; exact hc0
              clear hc0
              rw [hc] at eg
              have hWi : (!((((((((((((!(isT O.id)) || ((((O.typ != 2) && (O.typ != 3)) && (O.typ != 4)) && (O.typ != 7))) || (decide (O.alg < 0))) || (decide (100 < O.alg))) || (decide (O.len < 0))) || (decide (100000 < O.len))) || (decide (O.mask < 0))) || (decide (1048575 < O.mask))) || (decide ((128 : Int) < (s.mat.n : Int)))) || (decide (O.st < 1))) || (decide (6 < O.st))) || (decide (O.reason < 0)))) = true := by rw [hc]; rfl
              refine does_on rfl (by kernel_rfl) eg fun K Q' hK => ?_
              clear eg
              replace e77 := e77.trans (congrArg some (if_t hWi))
              have hf : Hid ((.bool (decide (7 < O.reason)) : Value) = (if (!((((((((((((!(isT O.id)) || ((((O.typ != 2) && (O.typ != 3)) && (O.typ != 4)) && (O.typ != 7))) || (decide (O.alg < 0))) || (decide (100 < O.alg))) || (decide (O.len < 0))) || (decide (100000 < O.len))) || (decide (O.mask < 0))) || (decide (1048575 < O.mask))) || (decide ((128 : Int) < (s.mat.n : Int)))) || (decide (O.st < 1))) || (decide (6 < O.st))) || (decide (O.reason < 0)))) = true then .bool (decide (7 < O.reason)) else undef)) := (if_t hWi).symm
              clear hWi hc
              go_simp; exact hK _ _ (Grow.refl _) hf.out
          · intro w1 hg Ar seen
            have e75 := seen.de 75 87
            have e78 := seen.de 78 90
            refine does_plain rfl fun K Q' hK => ?_
            by_cases hp0 : (((((((((((((!(isT O.id)) || ((((O.typ != 2) && (O.typ != 3)) && (O.typ != 4)) && (O.typ != 7))) || (decide (O.alg < 0))) || (decide (100 < O.alg))) || (decide (O.len < 0))) || (decide (100000 < O.len))) || (decide (O.mask < 0))) || (decide (1048575 < O.mask))) || (decide ((128 : Int) < (s.mat.n : Int)))) || (decide (O.st < 1))) || (decide (6 < O.st))) || (decide (O.reason < 0))) : Bool) = true
            · have hp := hp0
              clear hp0
              rw [hp] at e75
              clear e78
              have hv := hid (by show (Value.bool true) = .bool (((((((((((((!(isT O.id)) || ((((O.typ != 2) && (O.typ != 3)) && (O.typ != 4)) && (O.typ != 7))) || (decide (O.alg < 0))) || (decide (100 < O.alg))) || (decide (O.len < 0))) || (decide (100000 < O.len))) || (decide (O.mask < 0))) || (decide (1048575 < O.mask))) || (decide ((128 : Int) < (s.mat.n : Int)))) || (decide (O.st < 1))) || (decide (6 < O.st))) || (decide (O.reason < 0))) || (decide (7 < O.reason))); rw [hp]; rfl)
              clear hp
              go_simp; exact hK _ _ (Grow.refl _) hv.out
            · have hp : (((((((((((((!(isT O.id)) || ((((O.typ != 2) && (O.typ != 3)) && (O.typ != 4)) && (O.typ != 7))) || (decide (O.alg < 0))) || (decide (100 < O.alg))) || (decide (O.len < 0))) || (decide (100000 < O.len))) || (decide (O.mask < 0))) || (decide (1048575 < O.mask))) || (decide ((128 : Int) < (s.mat.n : Int)))) || (decide (O.st < 1))) || (decide (6 < O.st))) || (decide (O.reason < 0))) : Bool) = false := by rw [← Bool.not_eq_true]; exact hp0
              clear hp0
              rw [hp] at e75
              replace e78 := e78.trans (congrArg some (if_t (by rw [hp]; rfl)))
              have hv := hid (by show (Value.bool (decide (7 < O.reason))) = .bool (((((((((((((!(isT O.id)) || ((((O.typ != 2) && (O.typ != 3)) && (O.typ != 4)) && (O.typ != 7))) || (decide (O.alg < 0))) || (decide (100 < O.alg))) || (decide (O.len < 0))) || (decide (100000 < O.len))) || (decide (O.mask < 0))) || (decide (1048575 < O.mask))) || (decide ((128 : Int) < (s.mat.n : Int)))) || (decide (O.st < 1))) || (decide (6 < O.st))) || (decide (O.reason < 0))) || (decide (7 < O.reason))); rw [hp]; rfl)
              clear hp
              go_simp; exact hK _ _ (Grow.refl _) hv.out
      intro w1 hg
      refine upon_w' (js := [0, 1, 2, 3, 4, 5, 6, 7, 8, 9, 10, 11, 12, 13, 14, 15, 16, 17, 18, 19, 20, 21, 22, 23, 24, 25, 26, 27, 28, 29, 30, 31, 32, 33, 34, 35, 36, 37, 38, 39, 40, 41, 42, 43, 44, 45, 46, 47, 48, 49, 50, 51, 52, 53, 54, 55, 56, 57, 58, 59, 60, 61, 62, 63, 64, 65, 66, 67, 68, 69, 70, 71, 72, 73, 74, 75, 76, 77, 78, 79]) (by rfl) ?_
      refine upon_x (some 12) fun v12 => upon_x (some 13) fun v13 => upon_x (some 14) fun v14 => upon_x (some 15) fun v15 => upon_x (some 16) fun v16 => upon_x (some 17) fun v17 => upon_x (some 18) fun v18 => upon_x (some 19) fun v19 => upon_x (some 20) fun v20 => upon_x (some 21) fun v21 => upon_x (some 22) fun v22 => upon_x (some 23) fun v23 => upon_x (some 24) fun v24 => upon_x (some 25) fun v25 => upon_x (some 26) fun v26 => upon_x (some 27) fun v27 => upon_x (some 28) fun v28 => upon_x (some 29) fun v29 => upon_x (some 30) fun v30 => upon_x (some 31) fun v31 => upon_x (some 32) fun v32 => upon_x (some 33) fun v33 => upon_x (some 34) fun v34 => upon_x (some 35) fun v35 => upon_x (some 36) fun v36 => upon_x (some 37) fun v37 => upon_x (some 38) fun v38 => upon_x (some 39) fun v39 => upon_x (some 40) fun v40 => upon_x (some 41) fun v41 => upon_x (some 42) fun v42 => upon_x (some 43) fun v43 => upon_x (some 44) fun v44 => upon_x (some 45) fun v45 => upon_x (some 46) fun v46 => upon_x (some 47) fun v47 => upon_x (some 48) fun v48 => upon_x (some 49) fun v49 => upon_x (some 50) fun v50 => upon_x (some 51) fun v51 => upon_x (some 52) fun v52 => upon_x (some 53) fun v53 => upon_x (some 54) fun v54 => upon_x (some 55) fun v55 => upon_x (some 56) fun v56 => upon_x (some 57) fun v57 => upon_x (some 58) fun v58 => upon_x (some 59) fun v59 => upon_x (some 60) fun v60 => upon_x (some 61) fun v61 => upon_x (some 62) fun v62 => upon_x (some 63) fun v63 => upon_x (some 64) fun v64 => upon_x (some 65) fun v65 => upon_x (some 66) fun v66 => upon_x (some 67) fun v67 => upon_x (some 68) fun v68 => upon_x (some 69) fun v69 => upon_x (some 70) fun v70 => upon_x (some 71) fun v71 => upon_x (some 72) fun v72 => upon_x (some 73) fun v73 => upon_x (some 74) fun v74 => upon_x (some 75) fun v75 => upon_x (some 76) fun v76 => upon_x (some 77) fun v77 => upon_x (some 78) fun v78 => upon_x (some 79) fun v79 => upon_x (some 80) fun v80 => upon_x (some 81) fun v81 => upon_x (some 82) fun v82 => upon_x (some 83) fun v83 => upon_x (some 84) fun v84 => upon_x (some 85) fun v85 => upon_x (some 86) fun v86 => upon_x (some 87) fun v87 => upon_x (some 88) fun v88 => upon_x (some 89) fun v89 => upon_x (some 90) fun v90 => upon_e (some 91) (upon_n ?_)
      go_simp
      have S' := S.out.below hg
      refine wpList_nil (HK1 _ _ (Met.intro (HJ1 _ _ ?_)))
      (repeat apply Exists.intro)
      refine ⟨?_, rfl⟩
      exact ⟨_, rfl, fun h => p1_yes HML.out h, fun h => right_no1 (p1_no HML.out h), S'⟩
  case rest =>
    obtain ⟨v, rfl, h1, h2, hs⟩ := hcut
    clear S
    have S := hid hs
    clear hs
    cases v with
    | true =>
      have HR := hid (h2 rfl)
      clear h1 h2
      go_wp2_with fail
      go_ret
      exact ⟨by rw [HR.out]; rfl, S.out.bel⟩
    | false =>
      have P1 := hid (h1 rfl)
      clear h1 h2
      go_upto_block 0 with (fail)
      go_cut [] (fun wx => RrSt O s w b wx ∧ O.dates.all dateOk = true)
      case first =>
        as_aux_lemma =>
          go_wp2_with fail
          go_loopw [3] (fun y wr => ∃ k : Nat, k ≤ 10 ∧ y = .int .i64 k ∧ RrSt O s w b wr ∧ ∀ i, i < k → dateOk (O.dat i) = true) (fun y _ => 10 - (intOf y).toNat)
          case atStart => exact ⟨0, by omega, rfl, S.out, fun i hi => by omega⟩
          case round =>
            obtain ⟨k, hk, rfl, hs, ha⟩ := hrel
            clear S
            have S := hid hs; have HA := hid ha
            clear hs ha
            by_cases hlt : k < 10
            · have hrg := hid (date_range1 S.out.box hlt)
              have HDK : Hid (dateOk (O.dat k) = dateOk ((O.dat k).1, (O.dat k).2)) := rfl
              go_upto_region 7 with (first | (refine wpList_load_mid rfl 27 _ rfl b (7 + k * 2) rfl [.bool (O.dat k).1, .int .i64 (O.dat k).2] _ hrg.out Tryd.underlying27 rfl oSzD ?_) | (refine wpList_alloc_obj rfl 27 rfl _ oZrD ?_) | (refine wpList_store_obj rfl 27 _ _ rfl wr.heap.size rfl #[.bool (O.dat k).1, .int .i64 (O.dat k).2] rfl _ _ (block_new wr _) rfl oSzD (oneD _ _) ?_; intro w2 hb2 hc2 hs2; have HB_w2 := hid hb2; have HC_w2 := hid hc2; clear hb2 hc2 hs2))
              have hb : Below wr.heap.size wr w2 := ((Below.refl _ wr).alloc (Nat.le_refl _) _).trans (HC_w2.out.below (fun k hk => by rw [List.mem_singleton.1 hk]; exact Nat.le_refl _) (by simp))
              have S' := hid (S.out.below hb)
              clear hb HC_w2 S hrg
              have S := S'
              clear S'
              generalize hpd : wr.heap.size = pd at *
              clear hpd
              generalize (O.dat k).1 = hh at *
              generalize (O.dat k).2 = tt at *
              have e0 := cell_of_block (j := 0) HB_w2.out rfl
              have e1 := cell_of_block (j := 1) HB_w2.out rfl
              cases hh with
              | false =>
                by_cases ht : tt = 0
                · subst ht
                  have hok : dateOk (O.dat k) = true := by rw [HDK.out]; rfl
                  have HA2 : Hid (∀ i, i < k + 1 → dateOk (O.dat i) = true) := fun i hi => by
                    rcases Nat.lt_or_eq_of_le (Nat.le_of_lt_succ hi) with h | h
                    · exact HA.out i h
                    · rw [h]; exact hok
                  clear hok
                  go_wp2_with fail
                  go_roundw
                  case rel =>
                    first
                      | exact ⟨k + 1, by omega, by go_num, S.out, HA2.out⟩
                      | ((repeat apply Exists.intro); exact ⟨⟨k + 1, by omega, by go_num, S.out, HA2.out⟩, rfl⟩)
                  case measure => simp [intOf]; omega
                · have hn : (tt == 0) = false := by simp [ht]
                  have hn2 : (tt != 0) = true := by simp [ht]
                  have hr : rightO O = false := by
                    unfold rightO
                    rw [dates_no S.out.m.dl hlt (by rw [HDK.out]; unfold dateOk; simp [ht])]
                    simp
                  have HR := hid hr
                  clear hr
                  go_wp2_with fail
                  go_ret
                  exact ⟨by rw [HR.out]; rfl, S.out.bel⟩
              | true =>
                by_cases h1 : tt < -1099511627776
                · have qi := inB_lo (c := 1099511627776) h1
                  have hr : rightO O = false := by
                    unfold rightO
                    rw [dates_no S.out.m.dl hlt (by rw [HDK.out]; unfold dateOk; simp [qi])]
                    simp
                  have HR := hid hr
                  clear hr
                  go_wp2_with fail
                  go_ret
                  exact ⟨by rw [HR.out]; rfl, S.out.bel⟩
                · by_cases h2 : 1099511627776 < tt
                  · have qi := inB_hi (a := -1099511627776) h2
                    have hr : rightO O = false := by
                      unfold rightO
                      rw [dates_no S.out.m.dl hlt (by rw [HDK.out]; unfold dateOk; simp [qi])]
                      simp
                    have HR := hid hr
                    clear hr
                    go_wp2_with fail
                    go_ret
                    exact ⟨by rw [HR.out]; rfl, S.out.bel⟩
                  · have qi := inB_ok h1 h2
                    have hok : dateOk (O.dat k) = true := by rw [HDK.out]; unfold dateOk; simp [qi]
                    have HA2 : Hid (∀ i, i < k + 1 → dateOk (O.dat i) = true) := fun i hi => by
                      rcases Nat.lt_or_eq_of_le (Nat.le_of_lt_succ hi) with h | h
                      · exact HA.out i h
                      · rw [h]; exact hok
                    clear hok
                    go_wp2_with fail
                    go_roundw
                    case rel =>
                      first
                        | exact ⟨k + 1, by omega, by go_num, S.out, HA2.out⟩
                        | ((repeat apply Exists.intro); exact ⟨⟨k + 1, by omega, by go_num, S.out, HA2.out⟩, rfl⟩)
                    case measure => simp [intOf]; omega
            · obtain rfl : k = 10 := by omega
              have hd := dates_all S.out.m.dl HA.out
              go_wp2_with fail
              go_meet
              exact ⟨S.out, hd⟩
      case rest =>
        obtain ⟨hs, hd⟩ := hcut
        clear S
        have S := hid hs; have PD := hid hd
        clear hs hd
        go_upto_region 9 with (fail)
        go_cut [159] (fun x wx => ∃ v, x = .bool v ∧ (v = false → rP3 O = true) ∧ (v = true → rightO O = false) ∧ RrSt O s w b wx)
        case first =>
          as_aux_lemma =>
            rename_i J1 K1 HJ1 HK1
            refine wp_region_eachP 38 [.eq (.pointer (some ⟨b, 28, none⟩)), .eq (.string O.msg), .eq (.int .i64 (O.msg.size : Int)), .eq (.bool (decide ((120 : Int) < (O.msg.size : Int)))), .eq (.bool (decide ((120 : Int) < (O.msg.size : Int)))), .eq (if (!(decide ((120 : Int) < (O.msg.size : Int)))) = true then .pointer (some ⟨b, 28, none⟩) else undef), .eq (if (!(decide ((120 : Int) < (O.msg.size : Int)))) = true then .string O.msg else undef), .eq (if (!(decide ((120 : Int) < (O.msg.size : Int)))) = true then .bool (Lib.validD O.msg.data.toList) else undef), .eq (if (!(decide ((120 : Int) < (O.msg.size : Int)))) = true then .bool (!(Lib.validD O.msg.data.toList)) else undef), .eq (.bool ((decide ((120 : Int) < (O.msg.size : Int))) || (!(Lib.validD O.msg.data.toList)))), .eq (.bool ((decide ((120 : Int) < (O.msg.size : Int))) || (!(Lib.validD O.msg.data.toList)))), .eq (if (!((decide ((120 : Int) < (O.msg.size : Int))) || (!(Lib.validD O.msg.data.toList)))) = true then .pointer (some ⟨b, 27, none⟩) else undef), .eq (if (!((decide ((120 : Int) < (O.msg.size : Int))) || (!(Lib.validD O.msg.data.toList)))) = true then .int .i64 O.reason else undef), .eq (if (!((decide ((120 : Int) < (O.msg.size : Int))) || (!(Lib.validD O.msg.data.toList)))) = true then .bool (O.reason == 0) else undef), .eq (if (!((decide ((120 : Int) < (O.msg.size : Int))) || (!(Lib.validD O.msg.data.toList)))) = true then .bool (O.reason == 0) else undef), .eq (if ((!((decide ((120 : Int) < (O.msg.size : Int))) || (!(Lib.validD O.msg.data.toList)))) && (O.reason == 0)) = true then .pointer (some ⟨b, 28, none⟩) else undef), .eq (if ((!((decide ((120 : Int) < (O.msg.size : Int))) || (!(Lib.validD O.msg.data.toList)))) && (O.reason == 0)) = true then .string O.msg else undef), .eq (if ((!((decide ((120 : Int) < (O.msg.size : Int))) || (!(Lib.validD O.msg.data.toList)))) && (O.reason == 0)) = true then .bool (!O.msg.toList.isEmpty) else undef), .eq (if (!((decide ((120 : Int) < (O.msg.size : Int))) || (!(Lib.validD O.msg.data.toList)))) = true then .bool ((O.reason == 0) && (!O.msg.toList.isEmpty)) else undef), .eq (.bool (((decide ((120 : Int) < (O.msg.size : Int))) || (!(Lib.validD O.msg.data.toList))) || ((O.reason == 0) && (!O.msg.toList.isEmpty)))), .eq (.bool (((decide ((120 : Int) < (O.msg.size : Int))) || (!(Lib.validD O.msg.data.toList))) || ((O.reason == 0) && (!O.msg.toList.isEmpty)))), .eq (if (!(((decide ((120 : Int) < (O.msg.size : Int))) || (!(Lib.validD O.msg.data.toList))) || ((O.reason == 0) && (!O.msg.toList.isEmpty)))) = true then .pointer (some ⟨b, 29, none⟩) else undef), .eq (if (!(((decide ((120 : Int) < (O.msg.size : Int))) || (!(Lib.validD O.msg.data.toList))) || ((O.reason == 0) && (!O.msg.toList.isEmpty)))) = true then .slice s.names.a s.names.n s.names.c else undef), .eq (if (!(((decide ((120 : Int) < (O.msg.size : Int))) || (!(Lib.validD O.msg.data.toList))) || ((O.reason == 0) && (!O.msg.toList.isEmpty)))) = true then .int .i64 (s.names.n : Int) else undef), .eq (if (!(((decide ((120 : Int) < (O.msg.size : Int))) || (!(Lib.validD O.msg.data.toList))) || ((O.reason == 0) && (!O.msg.toList.isEmpty)))) = true then .bool (decide ((6 : Int) < (s.names.n : Int))) else undef), .eq (.bool ((((decide ((120 : Int) < (O.msg.size : Int))) || (!(Lib.validD O.msg.data.toList))) || ((O.reason == 0) && (!O.msg.toList.isEmpty))) || (decide ((6 : Int) < (s.names.n : Int))))), .eq (.bool ((((decide ((120 : Int) < (O.msg.size : Int))) || (!(Lib.validD O.msg.data.toList))) || ((O.reason == 0) && (!O.msg.toList.isEmpty))) || (decide ((6 : Int) < (s.names.n : Int))))), .eq (if (!((((decide ((120 : Int) < (O.msg.size : Int))) || (!(Lib.validD O.msg.data.toList))) || ((O.reason == 0) && (!O.msg.toList.isEmpty))) || (decide ((6 : Int) < (s.names.n : Int))))) = true then .pointer (some ⟨b, 30, none⟩) else undef), .eq (if (!((((decide ((120 : Int) < (O.msg.size : Int))) || (!(Lib.validD O.msg.data.toList))) || ((O.reason == 0) && (!O.msg.toList.isEmpty))) || (decide ((6 : Int) < (s.names.n : Int))))) = true then .slice s.links.a s.links.n s.links.c else undef), .eq (if (!((((decide ((120 : Int) < (O.msg.size : Int))) || (!(Lib.validD O.msg.data.toList))) || ((O.reason == 0) && (!O.msg.toList.isEmpty))) || (decide ((6 : Int) < (s.names.n : Int))))) = true then .int .i64 (s.links.n : Int) else undef), .eq (if (!((((decide ((120 : Int) < (O.msg.size : Int))) || (!(Lib.validD O.msg.data.toList))) || ((O.reason == 0) && (!O.msg.toList.isEmpty))) || (decide ((6 : Int) < (s.names.n : Int))))) = true then .bool (decide ((8 : Int) < (s.links.n : Int))) else undef), .eq (.bool (((((decide ((120 : Int) < (O.msg.size : Int))) || (!(Lib.validD O.msg.data.toList))) || ((O.reason == 0) && (!O.msg.toList.isEmpty))) || (decide ((6 : Int) < (s.names.n : Int)))) || (decide ((8 : Int) < (s.links.n : Int))))), .eq (.bool (((((decide ((120 : Int) < (O.msg.size : Int))) || (!(Lib.validD O.msg.data.toList))) || ((O.reason == 0) && (!O.msg.toList.isEmpty))) || (decide ((6 : Int) < (s.names.n : Int)))) || (decide ((8 : Int) < (s.links.n : Int))))), .eq (if (!(((((decide ((120 : Int) < (O.msg.size : Int))) || (!(Lib.validD O.msg.data.toList))) || ((O.reason == 0) && (!O.msg.toList.isEmpty))) || (decide ((6 : Int) < (s.names.n : Int)))) || (decide ((8 : Int) < (s.links.n : Int))))) = true then .pointer (some ⟨b, 31, none⟩) else undef), .eq (if (!(((((decide ((120 : Int) < (O.msg.size : Int))) || (!(Lib.validD O.msg.data.toList))) || ((O.reason == 0) && (!O.msg.toList.isEmpty))) || (decide ((6 : Int) < (s.names.n : Int)))) || (decide ((8 : Int) < (s.links.n : Int))))) = true then .slice s.custom.a s.custom.n s.custom.c else undef), .eq (if (!(((((decide ((120 : Int) < (O.msg.size : Int))) || (!(Lib.validD O.msg.data.toList))) || ((O.reason == 0) && (!O.msg.toList.isEmpty))) || (decide ((6 : Int) < (s.names.n : Int)))) || (decide ((8 : Int) < (s.links.n : Int))))) = true then .int .i64 (s.custom.n : Int) else undef), .eq (if (!(((((decide ((120 : Int) < (O.msg.size : Int))) || (!(Lib.validD O.msg.data.toList))) || ((O.reason == 0) && (!O.msg.toList.isEmpty))) || (decide ((6 : Int) < (s.names.n : Int)))) || (decide ((8 : Int) < (s.links.n : Int))))) = true then .bool (decide ((6 : Int) < (s.custom.n : Int))) else undef), .eq (.bool ((((((decide ((120 : Int) < (O.msg.size : Int))) || (!(Lib.validD O.msg.data.toList))) || ((O.reason == 0) && (!O.msg.toList.isEmpty))) || (decide ((6 : Int) < (s.names.n : Int)))) || (decide ((8 : Int) < (s.links.n : Int)))) || (decide ((6 : Int) < (s.custom.n : Int)))))] (by kernel_rfl) ?_ ?_
            · all_goals
                refine each_5 ?_ ?_ ?_ ?_ ?_ (each_5 ?_ ?_ ?_ ?_ ?_ (each_5 ?_ ?_ ?_ ?_ ?_ (each_5 ?_ ?_ ?_ ?_ ?_ (each_5 ?_ ?_ ?_ ?_ ?_ (each_5 ?_ ?_ ?_ ?_ ?_ (each_5 ?_ ?_ ?_ ?_ ?_ (each_c ?_ (each_c ?_ (each_c ?_ (each_n))))))))))
                · intro w1 hg Ar seen
                  have s1 := seen.sl 1 (.pointer (some ⟨b, 0, none⟩))
                  refine does_plain rfl fun K Q' hK => ?_
                  go_simp; exact hK _ _ (Grow.refl _) rfl
                · intro w1 hg Ar seen
                  have e0 := seen.de 0 122
                  refine does_plain rfl fun K Q' hK => ?_
                  have hc0 := cell_of_block (j := 28) ((hg.block _ (block_lt S.out.box)).trans S.out.box) (oc28 O s)
                  go_simp; exact hK _ _ (Grow.refl _) rfl
                · intro w1 hg Ar seen
                  have e1 := seen.de 1 123
                  refine does_plain rfl fun K Q' hK => ?_
                  go_simp; exact hK _ _ (Grow.refl _) rfl
                · intro w1 hg Ar seen
                  have e2 := seen.de 2 124
                  refine does_plain rfl fun K Q' hK => ?_
                  go_simp; exact hK _ _ (Grow.refl _) rfl
                · intro w1 hg Ar seen
                  have e3 := seen.de 3 125
                  refine does_plain rfl fun K Q' hK => ?_
                  go_simp; exact hK _ _ (Grow.refl _) rfl
                · intro w1 hg Ar seen
                  have s1 := seen.sl 1 (.pointer (some ⟨b, 0, none⟩))
                  have eg := seen.de 4 126
                  by_cases hc0 : ((decide ((120 : Int) < (O.msg.size : Int))) : Bool) = true
                  · have hc := hc0
                    clear hc0
                    rw [hc] at eg
                    have hWi : (!(decide ((120 : Int) < (O.msg.size : Int)))) = false := by rw [hc]; rfl
                    exact does_off rfl (by kernel_rfl) eg ne_tf (Grow.refl _) (show undef = _ from (if_f hWi).symm)
                  · have hc : ((decide ((120 : Int) < (O.msg.size : Int))) : Bool) = false := by rw [← Bool.not_eq_true]; exact hc0
                    clear hc0
                    rw [hc] at eg
                    have hWi : (!(decide ((120 : Int) < (O.msg.size : Int)))) = true := by rw [hc]; rfl
                    refine does_on rfl (by kernel_rfl) eg fun K Q' hK => ?_
                    clear eg
                    have hf : Hid ((.pointer (some ⟨b, 28, none⟩) : Value) = (if (!(decide ((120 : Int) < (O.msg.size : Int)))) = true then .pointer (some ⟨b, 28, none⟩) else undef)) := (if_t hWi).symm
                    clear hWi hc
                    go_simp; exact hK _ _ (Grow.refl _) hf.out
                · intro w1 hg Ar seen
                  have e5 := seen.de 5 127
                  have eg := seen.de 4 126
                  by_cases hc0 : ((decide ((120 : Int) < (O.msg.size : Int))) : Bool) = true
                  · have hc := hc0
                    clear hc0
                    rw [hc] at eg
                    have hWi : (!(decide ((120 : Int) < (O.msg.size : Int)))) = false := by rw [hc]; rfl
                    exact does_off rfl (by kernel_rfl) eg ne_tf (Grow.refl _) (show undef = _ from (if_f hWi).symm)
                  · have hc : ((decide ((120 : Int) < (O.msg.size : Int))) : Bool) = false := by rw [← Bool.not_eq_true]; exact hc0
                    clear hc0
                    rw [hc] at eg
                    have hWi : (!(decide ((120 : Int) < (O.msg.size : Int)))) = true := by rw [hc]; rfl
                    refine does_on rfl (by kernel_rfl) eg fun K Q' hK => ?_
                    clear eg
                    replace e5 := e5.trans (congrArg some (if_t hWi))
                    have hf : Hid ((.string O.msg : Value) = (if (!(decide ((120 : Int) < (O.msg.size : Int)))) = true then .string O.msg else undef)) := (if_t hWi).symm
                    clear hWi hc
                    have hc0 := cell_of_block (j := 28) ((hg.block _ (block_lt S.out.box)).trans S.out.box) (oc28 O s)
                    go_simp; exact hK _ _ (Grow.refl _) hf.out
                · intro w1 hg Ar seen
                  have e6 := seen.de 6 128
                  have eg := seen.de 4 126
                  by_cases hc0 : ((decide ((120 : Int) < (O.msg.size : Int))) : Bool) = true
                  · have hc := hc0
                    clear hc0
                    rw [hc] at eg
                    have hWi : (!(decide ((120 : Int) < (O.msg.size : Int)))) = false := by rw [hc]; rfl
                    exact does_off rfl (by kernel_rfl) eg ne_tf (Grow.refl _) (show undef = _ from (if_f hWi).symm)
                  · have hc : ((decide ((120 : Int) < (O.msg.size : Int))) : Bool) = false := by rw [← Bool.not_eq_true]; exact hc0
                    clear hc0
                    rw [hc] at eg
                    have hWi : (!(decide ((120 : Int) < (O.msg.size : Int)))) = true := by rw [hc]; rfl
                    refine does_on rfl (by kernel_rfl) eg fun K Q' hK => ?_
                    clear eg
                    replace e6 := e6.trans (congrArg some (if_t hWi))
                    have hf : Hid ((.bool (Lib.validD O.msg.data.toList) : Value) = (if (!(decide ((120 : Int) < (O.msg.size : Int)))) = true then .bool (Lib.validD O.msg.data.toList) else undef)) := (if_t hWi).symm
                    have hz : O.msg.size ≤ 9223372036854775807 := by have := of_decide_eq_false hc; omega
                    clear hc hWi
                    go_simp
                    refine (valid_any O.msg _ hz (S.out.ut.below hg)).mono ?_
                    rintro e u ⟨rfl, hb⟩
                    exact hK _ _ hb hf.out
                · intro w1 hg Ar seen
                  have e7 := seen.de 7 129
                  have eg := seen.de 4 126
                  by_cases hc0 : ((decide ((120 : Int) < (O.msg.size : Int))) : Bool) = true
                  · have hc := hc0
                    clear hc0
                    rw [hc] at eg
                    have hWi : (!(decide ((120 : Int) < (O.msg.size : Int)))) = false := by rw [hc]; rfl
                    exact does_off rfl (by kernel_rfl) eg ne_tf (Grow.refl _) (show undef = _ from (if_f hWi).symm)
                  · have hc : ((decide ((120 : Int) < (O.msg.size : Int))) : Bool) = false := by rw [← Bool.not_eq_true]; exact hc0
                    clear hc0
                    rw [hc] at eg
                    have hWi : (!(decide ((120 : Int) < (O.msg.size : Int)))) = true := by rw [hc]; rfl
                    refine does_on rfl (by kernel_rfl) eg fun K Q' hK => ?_
                    clear eg
                    replace e7 := e7.trans (congrArg some (if_t hWi))
                    have hf : Hid ((.bool (!(Lib.validD O.msg.data.toList)) : Value) = (if (!(decide ((120 : Int) < (O.msg.size : Int)))) = true then .bool (!(Lib.validD O.msg.data.toList)) else undef)) := (if_t hWi).symm
                    clear hWi hc
                    go_simp; exact hK _ _ (Grow.refl _) hf.out
                · intro w1 hg Ar seen
                  have e4 := seen.de 4 126
                  have e8 := seen.de 8 130
                  refine does_plain rfl fun K Q' hK => ?_
                  by_cases hp0 : ((decide ((120 : Int) < (O.msg.size : Int))) : Bool) = true
                  · have hp := hp0
                    clear hp0
                    rw [hp] at e4
                    clear e8
                    have hv := hid (by show (Value.bool true) = .bool ((decide ((120 : Int) < (O.msg.size : Int))) || (!(Lib.validD O.msg.data.toList))); rw [hp]; rfl)
                    clear hp
                    go_simp; exact hK _ _ (Grow.refl _) hv.out
                  · have hp : ((decide ((120 : Int) < (O.msg.size : Int))) : Bool) = false := by rw [← Bool.not_eq_true]; exact hp0
                    clear hp0
                    rw [hp] at e4
                    replace e8 := e8.trans (congrArg some (if_t (by rw [hp]; rfl)))
                    have hv := hid (by show (Value.bool (!(Lib.validD O.msg.data.toList))) = .bool ((decide ((120 : Int) < (O.msg.size : Int))) || (!(Lib.validD O.msg.data.toList))); rw [hp]; rfl)
                    clear hp
                    go_simp; exact hK _ _ (Grow.refl _) hv.out
                · intro w1 hg Ar seen
                  have e9 := seen.de 9 131
                  refine does_plain rfl fun K Q' hK => ?_
                  go_simp; exact hK _ _ (Grow.refl _) rfl
                · intro w1 hg Ar seen
                  have s1 := seen.sl 1 (.pointer (some ⟨b, 0, none⟩))
                  have eg := seen.de 10 132
                  by_cases hc0 : (((decide ((120 : Int) < (O.msg.size : Int))) || (!(Lib.validD O.msg.data.toList))) : Bool) = true
                  · have hc := hc0
                    clear hc0
                    rw [hc] at eg
                    have hWi : (!((decide ((120 : Int) < (O.msg.size : Int))) || (!(Lib.validD O.msg.data.toList)))) = false := by rw [hc]; rfl
                    exact does_off rfl (by kernel_rfl) eg ne_tf (Grow.refl _) (show undef = _ from (if_f hWi).symm)
                  · have hc : (((decide ((120 : Int) < (O.msg.size : Int))) || (!(Lib.validD O.msg.data.toList))) : Bool) = false := by rw [← Bool.not_eq_true]; exact hc0
                    clear hc0
                    rw [hc] at eg
                    have hWi : (!((decide ((120 : Int) < (O.msg.size : Int))) || (!(Lib.validD O.msg.data.toList)))) = true := by rw [hc]; rfl
                    refine does_on rfl (by kernel_rfl) eg fun K Q' hK => ?_
                    clear eg
                    have hf : Hid ((.pointer (some ⟨b, 27, none⟩) : Value) = (if (!((decide ((120 : Int) < (O.msg.size : Int))) || (!(Lib.validD O.msg.data.toList)))) = true then .pointer (some ⟨b, 27, none⟩) else undef)) := (if_t hWi).symm
                    clear hWi hc
                    go_simp; exact hK _ _ (Grow.refl _) hf.out
                · intro w1 hg Ar seen
                  have e11 := seen.de 11 133
                  have eg := seen.de 10 132
                  by_cases hc0 : (((decide ((120 : Int) < (O.msg.size : Int))) || (!(Lib.validD O.msg.data.toList))) : Bool) = true
                  · have hc := hc0
                    clear hc0
                    rw [hc] at eg
                    have hWi : (!((decide ((120 : Int) < (O.msg.size : Int))) || (!(Lib.validD O.msg.data.toList)))) = false := by rw [hc]; rfl
                    exact does_off rfl (by kernel_rfl) eg ne_tf (Grow.refl _) (show undef = _ from (if_f hWi).symm)
                  · have hc : (((decide ((120 : Int) < (O.msg.size : Int))) || (!(Lib.validD O.msg.data.toList))) : Bool) = false := by rw [← Bool.not_eq_true]; exact hc0
                    clear hc0
                    rw [hc] at eg
                    have hWi : (!((decide ((120 : Int) < (O.msg.size : Int))) || (!(Lib.validD O.msg.data.toList)))) = true := by rw [hc]; rfl
                    refine does_on rfl (by kernel_rfl) eg fun K Q' hK => ?_
                    clear eg
                    replace e11 := e11.trans (congrArg some (if_t hWi))
                    have hf : Hid ((.int .i64 O.reason : Value) = (if (!((decide ((120 : Int) < (O.msg.size : Int))) || (!(Lib.validD O.msg.data.toList)))) = true then .int .i64 O.reason else undef)) := (if_t hWi).symm
                    clear hWi hc
                    have hc0 := cell_of_block (j := 27) ((hg.block _ (block_lt S.out.box)).trans S.out.box) (oc27 O s)
                    go_simp; exact hK _ _ (Grow.refl _) hf.out
                · intro w1 hg Ar seen
                  have e12 := seen.de 12 134
                  have eg := seen.de 10 132
                  by_cases hc0 : (((decide ((120 : Int) < (O.msg.size : Int))) || (!(Lib.validD O.msg.data.toList))) : Bool) = true
                  · have hc := hc0
                    clear hc0
                    rw [hc] at eg
                    have hWi : (!((decide ((120 : Int) < (O.msg.size : Int))) || (!(Lib.validD O.msg.data.toList)))) = false := by rw [hc]; rfl
                    exact does_off rfl (by kernel_rfl) eg ne_tf (Grow.refl _) (show undef = _ from (if_f hWi).symm)
                  · have hc : (((decide ((120 : Int) < (O.msg.size : Int))) || (!(Lib.validD O.msg.data.toList))) : Bool) = false := by rw [← Bool.not_eq_true]; exact hc0
                    clear hc0
                    rw [hc] at eg
                    have hWi : (!((decide ((120 : Int) < (O.msg.size : Int))) || (!(Lib.validD O.msg.data.toList)))) = true := by rw [hc]; rfl
                    refine does_on rfl (by kernel_rfl) eg fun K Q' hK => ?_
                    clear eg
                    replace e12 := e12.trans (congrArg some (if_t hWi))
                    have hf : Hid ((.bool (O.reason == 0) : Value) = (if (!((decide ((120 : Int) < (O.msg.size : Int))) || (!(Lib.validD O.msg.data.toList)))) = true then .bool (O.reason == 0) else undef)) := (if_t hWi).symm
                    clear hWi hc
                    go_simp; exact hK _ _ (Grow.refl _) hf.out
                · intro w1 hg Ar seen
                  have e13 := seen.de 13 135
                  have eg := seen.de 10 132
                  by_cases hc0 : (((decide ((120 : Int) < (O.msg.size : Int))) || (!(Lib.validD O.msg.data.toList))) : Bool) = true
                  · have hc := hc0
                    clear hc0
                    rw [hc] at eg
                    have hWi : (!((decide ((120 : Int) < (O.msg.size : Int))) || (!(Lib.validD O.msg.data.toList)))) = false := by rw [hc]; rfl
                    exact does_off rfl (by kernel_rfl) eg ne_tf (Grow.refl _) (show undef = _ from (if_f hWi).symm)
                  · have hc : (((decide ((120 : Int) < (O.msg.size : Int))) || (!(Lib.validD O.msg.data.toList))) : Bool) = false := by rw [← Bool.not_eq_true]; exact hc0
                    clear hc0
                    rw [hc] at eg
                    have hWi : (!((decide ((120 : Int) < (O.msg.size : Int))) || (!(Lib.validD O.msg.data.toList)))) = true := by rw [hc]; rfl
                    refine does_on rfl (by kernel_rfl) eg fun K Q' hK => ?_
                    clear eg
                    replace e13 := e13.trans (congrArg some (if_t hWi))
                    have hf : Hid ((.bool (O.reason == 0) : Value) = (if (!((decide ((120 : Int) < (O.msg.size : Int))) || (!(Lib.validD O.msg.data.toList)))) = true then .bool (O.reason == 0) else undef)) := (if_t hWi).symm
                    clear hWi hc
                    go_simp; exact hK _ _ (Grow.refl _) hf.out
                · intro w1 hg Ar seen
                  have s1 := seen.sl 1 (.pointer (some ⟨b, 0, none⟩))
                  have eg := seen.de 14 136
                  by_cases hw : ((!((decide ((120 : Int) < (O.msg.size : Int))) || (!(Lib.validD O.msg.data.toList)))) : Bool) = true
                  · replace eg := eg.trans (congrArg some (if_t hw))
                    by_cases hc0 : ((O.reason == 0) : Bool) = true
                    · have hc := hc0
                      clear hc0
                      rw [hc] at eg
                      have hWi : ((!((decide ((120 : Int) < (O.msg.size : Int))) || (!(Lib.validD O.msg.data.toList)))) && (O.reason == 0)) = true := by rw [hw, hc]; rfl
                      refine does_on rfl (by kernel_rfl) eg fun K Q' hK => ?_
                      clear eg
                      have hf : Hid ((.pointer (some ⟨b, 28, none⟩) : Value) = (if ((!((decide ((120 : Int) < (O.msg.size : Int))) || (!(Lib.validD O.msg.data.toList)))) && (O.reason == 0)) = true then .pointer (some ⟨b, 28, none⟩) else undef)) := (if_t hWi).symm
                      clear hWi hc hw
                      go_simp; exact hK _ _ (Grow.refl _) hf.out
                    · have hc : ((O.reason == 0) : Bool) = false := by rw [← Bool.not_eq_true]; exact hc0
                      clear hc0
                      rw [hc] at eg
                      have hWi : ((!((decide ((120 : Int) < (O.msg.size : Int))) || (!(Lib.validD O.msg.data.toList)))) && (O.reason == 0)) = false := by rw [hw, hc]; rfl
                      exact does_off rfl (by kernel_rfl) eg ne_ft (Grow.refl _) (show undef = _ from (if_f hWi).symm)
                  · have hw : ((!((decide ((120 : Int) < (O.msg.size : Int))) || (!(Lib.validD O.msg.data.toList)))) : Bool) = false := by rw [← Bool.not_eq_true]; exact hw
                    have hWi : ((!((decide ((120 : Int) < (O.msg.size : Int))) || (!(Lib.validD O.msg.data.toList)))) && (O.reason == 0)) = false := by rw [hw]; rfl
                    exact does_off rfl (by kernel_rfl) (eg.trans (congrArg some (if_f hw))) (ne_un _) (Grow.refl _) (show undef = _ from (if_f hWi).symm)
                · intro w1 hg Ar seen
                  have e15 := seen.de 15 137
                  have eg := seen.de 14 136
                  by_cases hw : ((!((decide ((120 : Int) < (O.msg.size : Int))) || (!(Lib.validD O.msg.data.toList)))) : Bool) = true
                  · replace eg := eg.trans (congrArg some (if_t hw))
                    by_cases hc0 : ((O.reason == 0) : Bool) = true
                    · have hc := hc0
                      clear hc0
                      rw [hc] at eg
                      have hWi : ((!((decide ((120 : Int) < (O.msg.size : Int))) || (!(Lib.validD O.msg.data.toList)))) && (O.reason == 0)) = true := by rw [hw, hc]; rfl
                      refine does_on rfl (by kernel_rfl) eg fun K Q' hK => ?_
                      clear eg
                      replace e15 := e15.trans (congrArg some (if_t hWi))
                      have hf : Hid ((.string O.msg : Value) = (if ((!((decide ((120 : Int) < (O.msg.size : Int))) || (!(Lib.validD O.msg.data.toList)))) && (O.reason == 0)) = true then .string O.msg else undef)) := (if_t hWi).symm
                      clear hWi hc hw
                      have hc0 := cell_of_block (j := 28) ((hg.block _ (block_lt S.out.box)).trans S.out.box) (oc28 O s)
                      go_simp; exact hK _ _ (Grow.refl _) hf.out
                    · have hc : ((O.reason == 0) : Bool) = false := by rw [← Bool.not_eq_true]; exact hc0
                      clear hc0
                      rw [hc] at eg
                      have hWi : ((!((decide ((120 : Int) < (O.msg.size : Int))) || (!(Lib.validD O.msg.data.toList)))) && (O.reason == 0)) = false := by rw [hw, hc]; rfl
                      exact does_off rfl (by kernel_rfl) eg ne_ft (Grow.refl _) (show undef = _ from (if_f hWi).symm)
                  · have hw : ((!((decide ((120 : Int) < (O.msg.size : Int))) || (!(Lib.validD O.msg.data.toList)))) : Bool) = false := by rw [← Bool.not_eq_true]; exact hw
                    have hWi : ((!((decide ((120 : Int) < (O.msg.size : Int))) || (!(Lib.validD O.msg.data.toList)))) && (O.reason == 0)) = false := by rw [hw]; rfl
                    exact does_off rfl (by kernel_rfl) (eg.trans (congrArg some (if_f hw))) (ne_un _) (Grow.refl _) (show undef = _ from (if_f hWi).symm)
                · intro w1 hg Ar seen
                  have e16 := seen.de 16 138
                  have eg := seen.de 14 136
                  by_cases hw : ((!((decide ((120 : Int) < (O.msg.size : Int))) || (!(Lib.validD O.msg.data.toList)))) : Bool) = true
                  · replace eg := eg.trans (congrArg some (if_t hw))
                    by_cases hc0 : ((O.reason == 0) : Bool) = true
                    · have hc := hc0
                      clear hc0
                      rw [hc] at eg
                      have hWi : ((!((decide ((120 : Int) < (O.msg.size : Int))) || (!(Lib.validD O.msg.data.toList)))) && (O.reason == 0)) = true := by rw [hw, hc]; rfl
                      refine does_on rfl (by kernel_rfl) eg fun K Q' hK => ?_
                      clear eg
                      replace e16 := e16.trans (congrArg some (if_t hWi))
                      have hf : Hid ((.bool (!O.msg.toList.isEmpty) : Value) = (if ((!((decide ((120 : Int) < (O.msg.size : Int))) || (!(Lib.validD O.msg.data.toList)))) && (O.reason == 0)) = true then .bool (!O.msg.toList.isEmpty) else undef)) := (if_t hWi).symm
                      clear hWi hc hw
                      go_simp; exact hK _ _ (Grow.refl _) hf.out
                    · have hc : ((O.reason == 0) : Bool) = false := by rw [← Bool.not_eq_true]; exact hc0
                      clear hc0
                      rw [hc] at eg
                      have hWi : ((!((decide ((120 : Int) < (O.msg.size : Int))) || (!(Lib.validD O.msg.data.toList)))) && (O.reason == 0)) = false := by rw [hw, hc]; rfl
                      exact does_off rfl (by kernel_rfl) eg ne_ft (Grow.refl _) (show undef = _ from (if_f hWi).symm)
                  · have hw : ((!((decide ((120 : Int) < (O.msg.size : Int))) || (!(Lib.validD O.msg.data.toList)))) : Bool) = false := by rw [← Bool.not_eq_true]; exact hw
                    have hWi : ((!((decide ((120 : Int) < (O.msg.size : Int))) || (!(Lib.validD O.msg.data.toList)))) && (O.reason == 0)) = false := by rw [hw]; rfl
                    exact does_off rfl (by kernel_rfl) (eg.trans (congrArg some (if_f hw))) (ne_un _) (Grow.refl _) (show undef = _ from (if_f hWi).symm)
                · intro w1 hg Ar seen
                  have e14 := seen.de 14 136
                  have e17 := seen.de 17 139
                  have eg := seen.de 10 132
                  by_cases hc0 : (((decide ((120 : Int) < (O.msg.size : Int))) || (!(Lib.validD O.msg.data.toList))) : Bool) = true
                  · have hc := hc0
                    clear hc0
                    rw [hc] at eg
                    have hWi : (!((decide ((120 : Int) < (O.msg.size : Int))) || (!(Lib.validD O.msg.data.toList)))) = false := by rw [hc]; rfl
                    exact does_off rfl (by kernel_rfl) eg ne_tf (Grow.refl _) (show undef = _ from (if_f hWi).symm)
                  · have hc : (((decide ((120 : Int) < (O.msg.size : Int))) || (!(Lib.validD O.msg.data.toList))) : Bool) = false := by rw [← Bool.not_eq_true]; exact hc0
                    clear hc0
                    rw [hc] at eg
                    have hWi : (!((decide ((120 : Int) < (O.msg.size : Int))) || (!(Lib.validD O.msg.data.toList)))) = true := by rw [hc]; rfl
                    refine does_on rfl (by kernel_rfl) eg fun K Q' hK => ?_
                    clear eg
                    replace e14 := e14.trans (congrArg some (if_t hWi))
                    have hf : Hid ((.bool ((O.reason == 0) && (!O.msg.toList.isEmpty)) : Value) = (if (!((decide ((120 : Int) < (O.msg.size : Int))) || (!(Lib.validD O.msg.data.toList)))) = true then .bool ((O.reason == 0) && (!O.msg.toList.isEmpty)) else undef)) := (if_t hWi).symm
                    by_cases hp0 : ((O.reason == 0) : Bool) = true
                    · have hp := hp0
                      clear hp0
                      rw [hp] at e14
                      replace e17 := e17.trans (congrArg some (if_t (by rw [hWi, hp]; rfl)))
                      clear hf
                      have hv := hid (by show (Value.bool (!O.msg.toList.isEmpty)) = (if (!((decide ((120 : Int) < (O.msg.size : Int))) || (!(Lib.validD O.msg.data.toList)))) = true then .bool ((O.reason == 0) && (!O.msg.toList.isEmpty)) else undef); rw [if_t hWi, hp]; rfl)
                      clear hp
                      clear hWi hc
                      go_simp; exact hK _ _ (Grow.refl _) hv.out
                    · have hp : ((O.reason == 0) : Bool) = false := by rw [← Bool.not_eq_true]; exact hp0
                      clear hp0
                      rw [hp] at e14
                      clear e17
                      clear hf
                      have hv := hid (by show (Value.bool false) = (if (!((decide ((120 : Int) < (O.msg.size : Int))) || (!(Lib.validD O.msg.data.toList)))) = true then .bool ((O.reason == 0) && (!O.msg.toList.isEmpty)) else undef); rw [if_t hWi, hp]; rfl)
                      clear hp
                      clear hWi hc
                      go_simp; exact hK _ _ (Grow.refl _) hv.out
                · intro w1 hg Ar seen
                  have e10 := seen.de 10 132
                  have e18 := seen.de 18 140
                  refine does_plain rfl fun K Q' hK => ?_
                  by_cases hp0 : (((decide ((120 : Int) < (O.msg.size : Int))) || (!(Lib.validD O.msg.data.toList))) : Bool) = true
                  · have hp := hp0
                    clear hp0
                    rw [hp] at e10
                    clear e18
                    have hv := hid (by show (Value.bool true) = .bool (((decide ((120 : Int) < (O.msg.size : Int))) || (!(Lib.validD O.msg.data.toList))) || ((O.reason == 0) && (!O.msg.toList.isEmpty))); rw [hp]; rfl)
                    clear hp
                    go_simp; exact hK _ _ (Grow.refl _) hv.out
                  · have hp : (((decide ((120 : Int) < (O.msg.size : Int))) || (!(Lib.validD O.msg.data.toList))) : Bool) = false := by rw [← Bool.not_eq_true]; exact hp0
                    clear hp0
                    rw [hp] at e10
                    replace e18 := e18.trans (congrArg some (if_t (by rw [hp]; rfl)))
                    have hv := hid (by show (Value.bool ((O.reason == 0) && (!O.msg.toList.isEmpty))) = .bool (((decide ((120 : Int) < (O.msg.size : Int))) || (!(Lib.validD O.msg.data.toList))) || ((O.reason == 0) && (!O.msg.toList.isEmpty))); rw [hp]; rfl)
                    clear hp
                    go_simp; exact hK _ _ (Grow.refl _) hv.out
                · intro w1 hg Ar seen
                  have e19 := seen.de 19 141
                  refine does_plain rfl fun K Q' hK => ?_
                  go_simp; exact hK _ _ (Grow.refl _) rfl
                · intro w1 hg Ar seen
                  have s1 := seen.sl 1 (.pointer (some ⟨b, 0, none⟩))
                  have eg := seen.de 20 142
                  by_cases hc0 : ((((decide ((120 : Int) < (O.msg.size : Int))) || (!(Lib.validD O.msg.data.toList))) || ((O.reason == 0) && (!O.msg.toList.isEmpty))) : Bool) = true
                  · have hc := hc0
                    clear hc0
                    rw [hc] at eg
                    have hWi : (!(((decide ((120 : Int) < (O.msg.size : Int))) || (!(Lib.validD O.msg.data.toList))) || ((O.reason == 0) && (!O.msg.toList.isEmpty)))) = false := by rw [hc]; rfl
                    exact does_off rfl (by kernel_rfl) eg ne_tf (Grow.refl _) (show undef = _ from (if_f hWi).symm)
                  · have hc : ((((decide ((120 : Int) < (O.msg.size : Int))) || (!(Lib.validD O.msg.data.toList))) || ((O.reason == 0) && (!O.msg.toList.isEmpty))) : Bool) = false := by rw [← Bool.not_eq_true]; exact hc0
                    clear hc0
                    rw [hc] at eg
                    have hWi : (!(((decide ((120 : Int) < (O.msg.size : Int))) || (!(Lib.validD O.msg.data.toList))) || ((O.reason == 0) && (!O.msg.toList.isEmpty)))) = true := by rw [hc]; rfl
                    refine does_on rfl (by kernel_rfl) eg fun K Q' hK => ?_
                    clear eg
                    have hf : Hid ((.pointer (some ⟨b, 29, none⟩) : Value) = (if (!(((decide ((120 : Int) < (O.msg.size : Int))) || (!(Lib.validD O.msg.data.toList))) || ((O.reason == 0) && (!O.msg.toList.isEmpty)))) = true then .pointer (some ⟨b, 29, none⟩) else undef)) := (if_t hWi).symm
                    clear hWi hc
                    go_simp; exact hK _ _ (Grow.refl _) hf.out
                · intro w1 hg Ar seen
                  have e21 := seen.de 21 143
                  have eg := seen.de 20 142
                  by_cases hc0 : ((((decide ((120 : Int) < (O.msg.size : Int))) || (!(Lib.validD O.msg.data.toList))) || ((O.reason == 0) && (!O.msg.toList.isEmpty))) : Bool) = true
                  · have hc := hc0
                    clear hc0
                    rw [hc] at eg
                    have hWi : (!(((decide ((120 : Int) < (O.msg.size : Int))) || (!(Lib.validD O.msg.data.toList))) || ((O.reason == 0) && (!O.msg.toList.isEmpty)))) = false := by rw [hc]; rfl
                    exact does_off rfl (by kernel_rfl) eg ne_tf (Grow.refl _) (show undef = _ from (if_f hWi).symm)
                  · have hc : ((((decide ((120 : Int) < (O.msg.size : Int))) || (!(Lib.validD O.msg.data.toList))) || ((O.reason == 0) && (!O.msg.toList.isEmpty))) : Bool) = false := by rw [← Bool.not_eq_true]; exact hc0
                    clear hc0
                    rw [hc] at eg
                    have hWi : (!(((decide ((120 : Int) < (O.msg.size : Int))) || (!(Lib.validD O.msg.data.toList))) || ((O.reason == 0) && (!O.msg.toList.isEmpty)))) = true := by rw [hc]; rfl
                    refine does_on rfl (by kernel_rfl) eg fun K Q' hK => ?_
                    clear eg
                    replace e21 := e21.trans (congrArg some (if_t hWi))
                    have hf : Hid ((.slice s.names.a s.names.n s.names.c : Value) = (if (!(((decide ((120 : Int) < (O.msg.size : Int))) || (!(Lib.validD O.msg.data.toList))) || ((O.reason == 0) && (!O.msg.toList.isEmpty)))) = true then .slice s.names.a s.names.n s.names.c else undef)) := (if_t hWi).symm
                    clear hWi hc
                    have hc0 := cell_of_block (j := 29) ((hg.block _ (block_lt S.out.box)).trans S.out.box) (oc29 O s)
                    go_simp; exact hK _ _ (Grow.refl _) hf.out
                · intro w1 hg Ar seen
                  have e22 := seen.de 22 144
                  have eg := seen.de 20 142
                  by_cases hc0 : ((((decide ((120 : Int) < (O.msg.size : Int))) || (!(Lib.validD O.msg.data.toList))) || ((O.reason == 0) && (!O.msg.toList.isEmpty))) : Bool) = true
                  · have hc := hc0
                    clear hc0
                    rw [hc] at eg
                    have hWi : (!(((decide ((120 : Int) < (O.msg.size : Int))) || (!(Lib.validD O.msg.data.toList))) || ((O.reason == 0) && (!O.msg.toList.isEmpty)))) = false := by rw [hc]; rfl
                    exact does_off rfl (by kernel_rfl) eg ne_tf (Grow.refl _) (show undef = _ from (if_f hWi).symm)
                  · have hc : ((((decide ((120 : Int) < (O.msg.size : Int))) || (!(Lib.validD O.msg.data.toList))) || ((O.reason == 0) && (!O.msg.toList.isEmpty))) : Bool) = false := by rw [← Bool.not_eq_true]; exact hc0
                    clear hc0
                    rw [hc] at eg
                    have hWi : (!(((decide ((120 : Int) < (O.msg.size : Int))) || (!(Lib.validD O.msg.data.toList))) || ((O.reason == 0) && (!O.msg.toList.isEmpty)))) = true := by rw [hc]; rfl
                    refine does_on rfl (by kernel_rfl) eg fun K Q' hK => ?_
                    clear eg
                    replace e22 := e22.trans (congrArg some (if_t hWi))
                    have hf : Hid ((.int .i64 (s.names.n : Int) : Value) = (if (!(((decide ((120 : Int) < (O.msg.size : Int))) || (!(Lib.validD O.msg.data.toList))) || ((O.reason == 0) && (!O.msg.toList.isEmpty)))) = true then .int .i64 (s.names.n : Int) else undef)) := (if_t hWi).symm
                    clear hWi hc
                    go_simp; exact hK _ _ (Grow.refl _) hf.out
                · intro w1 hg Ar seen
                  have e23 := seen.de 23 145
                  have eg := seen.de 20 142
                  by_cases hc0 : ((((decide ((120 : Int) < (O.msg.size : Int))) || (!(Lib.validD O.msg.data.toList))) || ((O.reason == 0) && (!O.msg.toList.isEmpty))) : Bool) = true
                  · have hc := hc0
                    clear hc0
                    rw [hc] at eg
                    have hWi : (!(((decide ((120 : Int) < (O.msg.size : Int))) || (!(Lib.validD O.msg.data.toList))) || ((O.reason == 0) && (!O.msg.toList.isEmpty)))) = false := by rw [hc]; rfl
                    exact does_off rfl (by kernel_rfl) eg ne_tf (Grow.refl _) (show undef = _ from (if_f hWi).symm)
                  · have hc : ((((decide ((120 : Int) < (O.msg.size : Int))) || (!(Lib.validD O.msg.data.toList))) || ((O.reason == 0) && (!O.msg.toList.isEmpty))) : Bool) = false := by rw [← Bool.not_eq_true]; exact hc0
                    clear hc0
                    rw [hc] at eg
                    have hWi : (!(((decide ((120 : Int) < (O.msg.size : Int))) || (!(Lib.validD O.msg.data.toList))) || ((O.reason == 0) && (!O.msg.toList.isEmpty)))) = true := by rw [hc]; rfl
                    refine does_on rfl (by kernel_rfl) eg fun K Q' hK => ?_
                    clear eg
                    replace e23 := e23.trans (congrArg some (if_t hWi))
                    have hf : Hid ((.bool (decide ((6 : Int) < (s.names.n : Int))) : Value) = (if (!(((decide ((120 : Int) < (O.msg.size : Int))) || (!(Lib.validD O.msg.data.toList))) || ((O.reason == 0) && (!O.msg.toList.isEmpty)))) = true then .bool (decide ((6 : Int) < (s.names.n : Int))) else undef)) := (if_t hWi).symm
                    clear hWi hc
                    go_simp; exact hK _ _ (Grow.refl _) hf.out
                · intro w1 hg Ar seen
                  have e20 := seen.de 20 142
                  have e24 := seen.de 24 146
                  refine does_plain rfl fun K Q' hK => ?_
                  by_cases hp0 : ((((decide ((120 : Int) < (O.msg.size : Int))) || (!(Lib.validD O.msg.data.toList))) || ((O.reason == 0) && (!O.msg.toList.isEmpty))) : Bool) = true
                  · have hp := hp0
                    clear hp0
                    rw [hp] at e20
                    clear e24
                    have hv := hid (by show (Value.bool true) = .bool ((((decide ((120 : Int) < (O.msg.size : Int))) || (!(Lib.validD O.msg.data.toList))) || ((O.reason == 0) && (!O.msg.toList.isEmpty))) || (decide ((6 : Int) < (s.names.n : Int)))); rw [hp]; rfl)
                    clear hp
                    go_simp; exact hK _ _ (Grow.refl _) hv.out
                  · have hp : ((((decide ((120 : Int) < (O.msg.size : Int))) || (!(Lib.validD O.msg.data.toList))) || ((O.reason == 0) && (!O.msg.toList.isEmpty))) : Bool) = false := by rw [← Bool.not_eq_true]; exact hp0
                    clear hp0
                    rw [hp] at e20
                    replace e24 := e24.trans (congrArg some (if_t (by rw [hp]; rfl)))
                    have hv := hid (by show (Value.bool (decide ((6 : Int) < (s.names.n : Int)))) = .bool ((((decide ((120 : Int) < (O.msg.size : Int))) || (!(Lib.validD O.msg.data.toList))) || ((O.reason == 0) && (!O.msg.toList.isEmpty))) || (decide ((6 : Int) < (s.names.n : Int)))); rw [hp]; rfl)
                    clear hp
                    go_simp; exact hK _ _ (Grow.refl _) hv.out
                · intro w1 hg Ar seen
                  have e25 := seen.de 25 147
                  refine does_plain rfl fun K Q' hK => ?_
                  go_simp; exact hK _ _ (Grow.refl _) rfl
                · intro w1 hg Ar seen
                  have s1 := seen.sl 1 (.pointer (some ⟨b, 0, none⟩))
                  have eg := seen.de 26 148
                  by_cases hc0 : (((((decide ((120 : Int) < (O.msg.size : Int))) || (!(Lib.validD O.msg.data.toList))) || ((O.reason == 0) && (!O.msg.toList.isEmpty))) || (decide ((6 : Int) < (s.names.n : Int)))) : Bool) = true
                  · have hc := hc0
                    clear hc0
                    rw [hc] at eg
                    have hWi : (!((((decide ((120 : Int) < (O.msg.size : Int))) || (!(Lib.validD O.msg.data.toList))) || ((O.reason == 0) && (!O.msg.toList.isEmpty))) || (decide ((6 : Int) < (s.names.n : Int))))) = false := by rw [hc]; rfl
                    exact does_off rfl (by kernel_rfl) eg ne_tf (Grow.refl _) (show undef = _ from (if_f hWi).symm)
                  · have hc : (((((decide ((120 : Int) < (O.msg.size : Int))) || (!(Lib.validD O.msg.data.toList))) || ((O.reason == 0) && (!O.msg.toList.isEmpty))) || (decide ((6 : Int) < (s.names.n : Int)))) : Bool) = false := by rw [← Bool.not_eq_true]; exact hc0
                    clear hc0
                    rw [hc] at eg
                    have hWi : (!((((decide ((120 : Int) < (O.msg.size : Int))) || (!(Lib.validD O.msg.data.toList))) || ((O.reason == 0) && (!O.msg.toList.isEmpty))) || (decide ((6 : Int) < (s.names.n : Int))))) = true := by rw [hc]; rfl
                    refine does_on rfl (by kernel_rfl) eg fun K Q' hK => ?_
                    clear eg
                    have hf : Hid ((.pointer (some ⟨b, 30, none⟩) : Value) = (if (!((((decide ((120 : Int) < (O.msg.size : Int))) || (!(Lib.validD O.msg.data.toList))) || ((O.reason == 0) && (!O.msg.toList.isEmpty))) || (decide ((6 : Int) < (s.names.n : Int))))) = true then .pointer (some ⟨b, 30, none⟩) else undef)) := (if_t hWi).symm
                    clear hWi hc
                    go_simp; exact hK _ _ (Grow.refl _) hf.out
                · intro w1 hg Ar seen
                  have e27 := seen.de 27 149
                  have eg := seen.de 26 148
                  by_cases hc0 : (((((decide ((120 : Int) < (O.msg.size : Int))) || (!(Lib.validD O.msg.data.toList))) || ((O.reason == 0) && (!O.msg.toList.isEmpty))) || (decide ((6 : Int) < (s.names.n : Int)))) : Bool) = true
                  · have hc := hc0
                    clear hc0
                    rw [hc] at eg
                    have hWi : (!((((decide ((120 : Int) < (O.msg.size : Int))) || (!(Lib.validD O.msg.data.toList))) || ((O.reason == 0) && (!O.msg.toList.isEmpty))) || (decide ((6 : Int) < (s.names.n : Int))))) = false := by rw [hc]; rfl
                    exact does_off rfl (by kernel_rfl) eg ne_tf (Grow.refl _) (show undef = _ from (if_f hWi).symm)
                  · have hc : (((((decide ((120 : Int) < (O.msg.size : Int))) || (!(Lib.validD O.msg.data.toList))) || ((O.reason == 0) && (!O.msg.toList.isEmpty))) || (decide ((6 : Int) < (s.names.n : Int)))) : Bool) = false := by rw [← Bool.not_eq_true]; exact hc0
                    clear hc0
                    rw [hc] at eg
                    have hWi : (!((((decide ((120 : Int) < (O.msg.size : Int))) || (!(Lib.validD O.msg.data.toList))) || ((O.reason == 0) && (!O.msg.toList.isEmpty))) || (decide ((6 : Int) < (s.names.n : Int))))) = true := by rw [hc]; rfl
                    refine does_on rfl (by kernel_rfl) eg fun K Q' hK => ?_
                    clear eg
                    replace e27 := e27.trans (congrArg some (if_t hWi))
                    have hf : Hid ((.slice s.links.a s.links.n s.links.c : Value) = (if (!((((decide ((120 : Int) < (O.msg.size : Int))) || (!(Lib.validD O.msg.data.toList))) || ((O.reason == 0) && (!O.msg.toList.isEmpty))) || (decide ((6 : Int) < (s.names.n : Int))))) = true then .slice s.links.a s.links.n s.links.c else undef)) := (if_t hWi).symm
                    clear hWi hc
                    have hc0 := cell_of_block (j := 30) ((hg.block _ (block_lt S.out.box)).trans S.out.box) (oc30 O s)
                    go_simp; exact hK _ _ (Grow.refl _) hf.out
                · intro w1 hg Ar seen
                  have e28 := seen.de 28 150
                  have eg := seen.de 26 148
                  by_cases hc0 : (((((decide ((120 : Int) < (O.msg.size : Int))) || (!(Lib.validD O.msg.data.toList))) || ((O.reason == 0) && (!O.msg.toList.isEmpty))) || (decide ((6 : Int) < (s.names.n : Int)))) : Bool) = true
                  · have hc := hc0
                    clear hc0
                    rw [hc] at eg
                    have hWi : (!((((decide ((120 : Int) < (O.msg.size : Int))) || (!(Lib.validD O.msg.data.toList))) || ((O.reason == 0) && (!O.msg.toList.isEmpty))) || (decide ((6 : Int) < (s.names.n : Int))))) = false := by rw [hc]; rfl
                    exact does_off rfl (by kernel_rfl) eg ne_tf (Grow.refl _) (show undef = _ from (if_f hWi).symm)
                  · have hc : (((((decide ((120 : Int) < (O.msg.size : Int))) || (!(Lib.validD O.msg.data.toList))) || ((O.reason == 0) && (!O.msg.toList.isEmpty))) || (decide ((6 : Int) < (s.names.n : Int)))) : Bool) = false := by rw [← Bool.not_eq_true]; exact hc0
                    clear hc0
                    rw [hc] at eg
                    have hWi : (!((((decide ((120 : Int) < (O.msg.size : Int))) || (!(Lib.validD O.msg.data.toList))) || ((O.reason == 0) && (!O.msg.toList.isEmpty))) || (decide ((6 : Int) < (s.names.n : Int))))) = true := by rw [hc]; rfl
                    refine does_on rfl (by kernel_rfl) eg fun K Q' hK => ?_
                    clear eg
                    replace e28 := e28.trans (congrArg some (if_t hWi))
                    have hf : Hid ((.int .i64 (s.links.n : Int) : Value) = (if (!((((decide ((120 : Int) < (O.msg.size : Int))) || (!(Lib.validD O.msg.data.toList))) || ((O.reason == 0) && (!O.msg.toList.isEmpty))) || (decide ((6 : Int) < (s.names.n : Int))))) = true then .int .i64 (s.links.n : Int) else undef)) := (if_t hWi).symm
                    clear hWi hc
                    go_simp; exact hK _ _ (Grow.refl _) hf.out
                · intro w1 hg Ar seen
                  have e29 := seen.de 29 151
                  have eg := seen.de 26 148
                  by_cases hc0 : (((((decide ((120 : Int) < (O.msg.size : Int))) || (!(Lib.validD O.msg.data.toList))) || ((O.reason == 0) && (!O.msg.toList.isEmpty))) || (decide ((6 : Int) < (s.names.n : Int)))) : Bool) = true
                  · have hc := hc0
                    clear hc0
                    rw [hc] at eg
                    have hWi : (!((((decide ((120 : Int) < (O.msg.size : Int))) || (!(Lib.validD O.msg.data.toList))) || ((O.reason == 0) && (!O.msg.toList.isEmpty))) || (decide ((6 : Int) < (s.names.n : Int))))) = false := by rw [hc]; rfl
                    exact does_off rfl (by kernel_rfl) eg ne_tf (Grow.refl _) (show undef = _ from (if_f hWi).symm)
                  · have hc : (((((decide ((120 : Int) < (O.msg.size : Int))) || (!(Lib.validD O.msg.data.toList))) || ((O.reason == 0) && (!O.msg.toList.isEmpty))) || (decide ((6 : Int) < (s.names.n : Int)))) : Bool) = false := by rw [← Bool.not_eq_true]; exact hc0
                    clear hc0
                    rw [hc] at eg
                    have hWi : (!((((decide ((120 : Int) < (O.msg.size : Int))) || (!(Lib.validD O.msg.data.toList))) || ((O.reason == 0) && (!O.msg.toList.isEmpty))) || (decide ((6 : Int) < (s.names.n : Int))))) = true := by rw [hc]; rfl
                    refine does_on rfl (by kernel_rfl) eg fun K Q' hK => ?_
                    clear eg
                    replace e29 := e29.trans (congrArg some (if_t hWi))
                    have hf : Hid ((.bool (decide ((8 : Int) < (s.links.n : Int))) : Value) = (if (!((((decide ((120 : Int) < (O.msg.size : Int))) || (!(Lib.validD O.msg.data.toList))) || ((O.reason == 0) && (!O.msg.toList.isEmpty))) || (decide ((6 : Int) < (s.names.n : Int))))) = true then .bool (decide ((8 : Int) < (s.links.n : Int))) else undef)) := (if_t hWi).symm
                    clear hWi hc
                    go_simp; exact hK _ _ (Grow.refl _) hf.out
                · intro w1 hg Ar seen
                  have e26 := seen.de 26 148
                  have e30 := seen.de 30 152
                  refine does_plain rfl fun K Q' hK => ?_
                  by_cases hp0 : (((((decide ((120 : Int) < (O.msg.size : Int))) || (!(Lib.validD O.msg.data.toList))) || ((O.reason == 0) && (!O.msg.toList.isEmpty))) || (decide ((6 : Int) < (s.names.n : Int)))) : Bool) = true
                  · have hp := hp0
                    clear hp0
                    rw [hp] at e26
                    clear e30
                    have hv := hid (by show (Value.bool true) = .bool (((((decide ((120 : Int) < (O.msg.size : Int))) || (!(Lib.validD O.msg.data.toList))) || ((O.reason == 0) && (!O.msg.toList.isEmpty))) || (decide ((6 : Int) < (s.names.n : Int)))) || (decide ((8 : Int) < (s.links.n : Int)))); rw [hp]; rfl)
                    clear hp
                    go_simp; exact hK _ _ (Grow.refl _) hv.out
                  · have hp : (((((decide ((120 : Int) < (O.msg.size : Int))) || (!(Lib.validD O.msg.data.toList))) || ((O.reason == 0) && (!O.msg.toList.isEmpty))) || (decide ((6 : Int) < (s.names.n : Int)))) : Bool) = false := by rw [← Bool.not_eq_true]; exact hp0
                    clear hp0
                    rw [hp] at e26
                    replace e30 := e30.trans (congrArg some (if_t (by rw [hp]; rfl)))
                    have hv := hid (by show (Value.bool (decide ((8 : Int) < (s.links.n : Int)))) = .bool (((((decide ((120 : Int) < (O.msg.size : Int))) || (!(Lib.validD O.msg.data.toList))) || ((O.reason == 0) && (!O.msg.toList.isEmpty))) || (decide ((6 : Int) < (s.names.n : Int)))) || (decide ((8 : Int) < (s.links.n : Int)))); rw [hp]; rfl)
                    clear hp
                    go_simp; exact hK _ _ (Grow.refl _) hv.out
                · intro w1 hg Ar seen
                  have e31 := seen.de 31 153
                  refine does_plain rfl fun K Q' hK => ?_
                  go_simp; exact hK _ _ (Grow.refl _) rfl
                · intro w1 hg Ar seen
                  have s1 := seen.sl 1 (.pointer (some ⟨b, 0, none⟩))
                  have eg := seen.de 32 154
                  by_cases hc0 : ((((((decide ((120 : Int) < (O.msg.size : Int))) || (!(Lib.validD O.msg.data.toList))) || ((O.reason == 0) && (!O.msg.toList.isEmpty))) || (decide ((6 : Int) < (s.names.n : Int)))) || (decide ((8 : Int) < (s.links.n : Int)))) : Bool) = true
                  · have hc := hc0
                    clear hc0
                    rw [hc] at eg
                    have hWi : (!(((((decide ((120 : Int) < (O.msg.size : Int))) || (!(Lib.validD O.msg.data.toList))) || ((O.reason == 0) && (!O.msg.toList.isEmpty))) || (decide ((6 : Int) < (s.names.n : Int)))) || (decide ((8 : Int) < (s.links.n : Int))))) = false := by rw [hc]; rfl
                    exact does_off rfl (by kernel_rfl) eg ne_tf (Grow.refl _) (show undef = _ from (if_f hWi).symm)
                  · have hc : ((((((decide ((120 : Int) < (O.msg.size : Int))) || (!(Lib.validD O.msg.data.toList))) || ((O.reason == 0) && (!O.msg.toList.isEmpty))) || (decide ((6 : Int) < (s.names.n : Int)))) || (decide ((8 : Int) < (s.links.n : Int)))) : Bool) = false := by rw [← Bool.not_eq_true]; exact hc0
                    clear hc0
                    rw [hc] at eg
                    have hWi : (!(((((decide ((120 : Int) < (O.msg.size : Int))) || (!(Lib.validD O.msg.data.toList))) || ((O.reason == 0) && (!O.msg.toList.isEmpty))) || (decide ((6 : Int) < (s.names.n : Int)))) || (decide ((8 : Int) < (s.links.n : Int))))) = true := by rw [hc]; rfl
                    refine does_on rfl (by kernel_rfl) eg fun K Q' hK => ?_
                    clear eg
                    have hf : Hid ((.pointer (some ⟨b, 31, none⟩) : Value) = (if (!(((((decide ((120 : Int) < (O.msg.size : Int))) || (!(Lib.validD O.msg.data.toList))) || ((O.reason == 0) && (!O.msg.toList.isEmpty))) || (decide ((6 : Int) < (s.names.n : Int)))) || (decide ((8 : Int) < (s.links.n : Int))))) = true then .pointer (some ⟨b, 31, none⟩) else undef)) := (if_t hWi).symm
                    clear hWi hc
                    go_simp; exact hK _ _ (Grow.refl _) hf.out
                · intro w1 hg Ar seen
                  have e33 := seen.de 33 155
                  have eg := seen.de 32 154
                  by_cases hc0 : ((((((decide ((120 : Int) < (O.msg.size : Int))) || (!(Lib.validD O.msg.data.toList))) || ((O.reason == 0) && (!O.msg.toList.isEmpty))) || (decide ((6 : Int) < (s.names.n : Int)))) || (decide ((8 : Int) < (s.links.n : Int)))) : Bool) = true
                  · have hc := hc0
                    clear hc0
                    rw [hc] at eg
                    have hWi : (!(((((decide ((120 : Int) < (O.msg.size : Int))) || (!(Lib.validD O.msg.data.toList))) || ((O.reason == 0) && (!O.msg.toList.isEmpty))) || (decide ((6 : Int) < (s.names.n : Int)))) || (decide ((8 : Int) < (s.links.n : Int))))) = false := by rw [hc]; rfl
                    exact does_off rfl (by kernel_rfl) eg ne_tf (Grow.refl _) (show undef = _ from (if_f hWi).symm)
                  · have hc : ((((((decide ((120 : Int) < (O.msg.size : Int))) || (!(Lib.validD O.msg.data.toList))) || ((O.reason == 0) && (!O.msg.toList.isEmpty))) || (decide ((6 : Int) < (s.names.n : Int)))) || (decide ((8 : Int) < (s.links.n : Int)))) : Bool) = false := by rw [← Bool.not_eq_true]; exact hc0
                    clear hc0
                    rw [hc] at eg
                    have hWi : (!(((((decide ((120 : Int) < (O.msg.size : Int))) || (!(Lib.validD O.msg.data.toList))) || ((O.reason == 0) && (!O.msg.toList.isEmpty))) || (decide ((6 : Int) < (s.names.n : Int)))) || (decide ((8 : Int) < (s.links.n : Int))))) = true := by rw [hc]; rfl
                    refine does_on rfl (by kernel_rfl) eg fun K Q' hK => ?_
                    clear eg
                    replace e33 := e33.trans (congrArg some (if_t hWi))
                    have hf : Hid ((.slice s.custom.a s.custom.n s.custom.c : Value) = (if (!(((((decide ((120 : Int) < (O.msg.size : Int))) || (!(Lib.validD O.msg.data.toList))) || ((O.reason == 0) && (!O.msg.toList.isEmpty))) || (decide ((6 : Int) < (s.names.n : Int)))) || (decide ((8 : Int) < (s.links.n : Int))))) = true then .slice s.custom.a s.custom.n s.custom.c else undef)) := (if_t hWi).symm
                    clear hWi hc
                    have hc0 := cell_of_block (j := 31) ((hg.block _ (block_lt S.out.box)).trans S.out.box) (oc31 O s)
                    go_simp; exact hK _ _ (Grow.refl _) hf.out
                · intro w1 hg Ar seen
                  have e34 := seen.de 34 156
                  have eg := seen.de 32 154
                  by_cases hc0 : ((((((decide ((120 : Int) < (O.msg.size : Int))) || (!(Lib.validD O.msg.data.toList))) || ((O.reason == 0) && (!O.msg.toList.isEmpty))) || (decide ((6 : Int) < (s.names.n : Int)))) || (decide ((8 : Int) < (s.links.n : Int)))) : Bool) = true
                  · have hc := hc0
                    clear hc0
                    rw [hc] at eg
                    have hWi : (!(((((decide ((120 : Int) < (O.msg.size : Int))) || (!(Lib.validD O.msg.data.toList))) || ((O.reason == 0) && (!O.msg.toList.isEmpty))) || (decide ((6 : Int) < (s.names.n : Int)))) || (decide ((8 : Int) < (s.links.n : Int))))) = false := by rw [hc]; rfl
                    exact does_off rfl (by kernel_rfl) eg ne_tf (Grow.refl _) (show undef = _ from (if_f hWi).symm)
                  · have hc : ((((((decide ((120 : Int) < (O.msg.size : Int))) || (!(Lib.validD O.msg.data.toList))) || ((O.reason == 0) && (!O.msg.toList.isEmpty))) || (decide ((6 : Int) < (s.names.n : Int)))) || (decide ((8 : Int) < (s.links.n : Int)))) : Bool) = false := by rw [← Bool.not_eq_true]; exact hc0
                    clear hc0
                    rw [hc] at eg
                    have hWi : (!(((((decide ((120 : Int) < (O.msg.size : Int))) || (!(Lib.validD O.msg.data.toList))) || ((O.reason == 0) && (!O.msg.toList.isEmpty))) || (decide ((6 : Int) < (s.names.n : Int)))) || (decide ((8 : Int) < (s.links.n : Int))))) = true := by rw [hc]; rfl
                    refine does_on rfl (by kernel_rfl) eg fun K Q' hK => ?_
                    clear eg
                    replace e34 := e34.trans (congrArg some (if_t hWi))
                    have hf : Hid ((.int .i64 (s.custom.n : Int) : Value) = (if (!(((((decide ((120 : Int) < (O.msg.size : Int))) || (!(Lib.validD O.msg.data.toList))) || ((O.reason == 0) && (!O.msg.toList.isEmpty))) || (decide ((6 : Int) < (s.names.n : Int)))) || (decide ((8 : Int) < (s.links.n : Int))))) = true then .int .i64 (s.custom.n : Int) else undef)) := (if_t hWi).symm
                    clear hWi hc
                    go_simp; exact hK _ _ (Grow.refl _) hf.out
                · intro w1 hg Ar seen
                  have e35 := seen.de 35 157
                  have eg := seen.de 32 154
                  by_cases hc0 : ((((((decide ((120 : Int) < (O.msg.size : Int))) || (!(Lib.validD O.msg.data.toList))) || ((O.reason == 0) && (!O.msg.toList.isEmpty))) || (decide ((6 : Int) < (s.names.n : Int)))) || (decide ((8 : Int) < (s.links.n : Int)))) : Bool) = true
                  · have hc := hc0
                    clear hc0
                    rw [hc] at eg
                    have hWi : (!(((((decide ((120 : Int) < (O.msg.size : Int))) || (!(Lib.validD O.msg.data.toList))) || ((O.reason == 0) && (!O.msg.toList.isEmpty))) || (decide ((6 : Int) < (s.names.n : Int)))) || (decide ((8 : Int) < (s.links.n : Int))))) = false := by rw [hc]; rfl
                    exact does_off rfl (by kernel_rfl) eg ne_tf (Grow.refl _) (show undef = _ from (if_f hWi).symm)
                  · have hc : ((((((decide ((120 : Int) < (O.msg.size : Int))) || (!(Lib.validD O.msg.data.toList))) || ((O.reason == 0) && (!O.msg.toList.isEmpty))) || (decide ((6 : Int) < (s.names.n : Int)))) || (decide ((8 : Int) < (s.links.n : Int)))) : Bool) = false := by rw [← Bool.not_eq_true]; exact hc0
                    clear hc0
                    rw [hc] at eg
                    have hWi : (!(((((decide ((120 : Int) < (O.msg.size : Int))) || (!(Lib.validD O.msg.data.toList))) || ((O.reason == 0) && (!O.msg.toList.isEmpty))) || (decide ((6 : Int) < (s.names.n : Int)))) || (decide ((8 : Int) < (s.links.n : Int))))) = true := by rw [hc]; rfl
                    refine does_on rfl (by kernel_rfl) eg fun K Q' hK => ?_
                    clear eg
                    replace e35 := e35.trans (congrArg some (if_t hWi))
                    have hf : Hid ((.bool (decide ((6 : Int) < (s.custom.n : Int))) : Value) = (if (!(((((decide ((120 : Int) < (O.msg.size : Int))) || (!(Lib.validD O.msg.data.toList))) || ((O.reason == 0) && (!O.msg.toList.isEmpty))) || (decide ((6 : Int) < (s.names.n : Int)))) || (decide ((8 : Int) < (s.links.n : Int))))) = true then .bool (decide ((6 : Int) < (s.custom.n : Int))) else undef)) := (if_t hWi).symm
                    clear hWi hc
                    go_simp; exact hK _ _ (Grow.refl _) hf.out
                · intro w1 hg Ar seen
                  have e32 := seen.de 32 154
                  have e36 := seen.de 36 158
                  refine does_plain rfl fun K Q' hK => ?_
                  by_cases hp0 : ((((((decide ((120 : Int) < (O.msg.size : Int))) || (!(Lib.validD O.msg.data.toList))) || ((O.reason == 0) && (!O.msg.toList.isEmpty))) || (decide ((6 : Int) < (s.names.n : Int)))) || (decide ((8 : Int) < (s.links.n : Int)))) : Bool) = true
                  · have hp := hp0
                    clear hp0
                    rw [hp] at e32
                    clear e36
                    have hv := hid (by show (Value.bool true) = .bool ((((((decide ((120 : Int) < (O.msg.size : Int))) || (!(Lib.validD O.msg.data.toList))) || ((O.reason == 0) && (!O.msg.toList.isEmpty))) || (decide ((6 : Int) < (s.names.n : Int)))) || (decide ((8 : Int) < (s.links.n : Int)))) || (decide ((6 : Int) < (s.custom.n : Int)))); rw [hp]; rfl)
                    clear hp
                    go_simp; exact hK _ _ (Grow.refl _) hv.out
                  · have hp : ((((((decide ((120 : Int) < (O.msg.size : Int))) || (!(Lib.validD O.msg.data.toList))) || ((O.reason == 0) && (!O.msg.toList.isEmpty))) || (decide ((6 : Int) < (s.names.n : Int)))) || (decide ((8 : Int) < (s.links.n : Int)))) : Bool) = false := by rw [← Bool.not_eq_true]; exact hp0
                    clear hp0
                    rw [hp] at e32
                    replace e36 := e36.trans (congrArg some (if_t (by rw [hp]; rfl)))
                    have hv := hid (by show (Value.bool (decide ((6 : Int) < (s.custom.n : Int)))) = .bool ((((((decide ((120 : Int) < (O.msg.size : Int))) || (!(Lib.validD O.msg.data.toList))) || ((O.reason == 0) && (!O.msg.toList.isEmpty))) || (decide ((6 : Int) < (s.names.n : Int)))) || (decide ((8 : Int) < (s.links.n : Int)))) || (decide ((6 : Int) < (s.custom.n : Int)))); rw [hp]; rfl)
                    clear hp
                    go_simp; exact hK _ _ (Grow.refl _) hv.out
            intro w1 hg
            refine upon_w' (js := [0, 1, 2, 3, 4, 5, 6, 7, 8, 9, 10, 11, 12, 13, 14, 15, 16, 17, 18, 19, 20, 21, 22, 23, 24, 25, 26, 27, 28, 29, 30, 31, 32, 33, 34, 35, 36, 37]) (by rfl) ?_
            refine upon_x (some 122) fun v122 => upon_x (some 123) fun v123 => upon_x (some 124) fun v124 => upon_x (some 125) fun v125 => upon_x (some 126) fun v126 => upon_x (some 127) fun v127 => upon_x (some 128) fun v128 => upon_x (some 129) fun v129 => upon_x (some 130) fun v130 => upon_x (some 131) fun v131 => upon_x (some 132) fun v132 => upon_x (some 133) fun v133 => upon_x (some 134) fun v134 => upon_x (some 135) fun v135 => upon_x (some 136) fun v136 => upon_x (some 137) fun v137 => upon_x (some 138) fun v138 => upon_x (some 139) fun v139 => upon_x (some 140) fun v140 => upon_x (some 141) fun v141 => upon_x (some 142) fun v142 => upon_x (some 143) fun v143 => upon_x (some 144) fun v144 => upon_x (some 145) fun v145 => upon_x (some 146) fun v146 => upon_x (some 147) fun v147 => upon_x (some 148) fun v148 => upon_x (some 149) fun v149 => upon_x (some 150) fun v150 => upon_x (some 151) fun v151 => upon_x (some 152) fun v152 => upon_x (some 153) fun v153 => upon_x (some 154) fun v154 => upon_x (some 155) fun v155 => upon_x (some 156) fun v156 => upon_x (some 157) fun v157 => upon_x (some 158) fun v158 => upon_e (some 159) (upon_n ?_)
            go_simp
            have S' := S.out.below hg
            refine wpList_nil (HK1 _ _ (Met.intro (HJ1 _ _ ?_)))
            (repeat apply Exists.intro)
            refine ⟨?_, rfl⟩
            exact ⟨_, rfl, fun h => p3_yes Nnames.out Nlinks.out Ncustom.out h, fun h => right_no3 (p3_no Nnames.out Nlinks.out Ncustom.out h), S'⟩
        case rest =>
          obtain ⟨v, rfl, h1, h2, hs⟩ := hcut
          clear S
          have S := hid hs
          clear hs
          cases v with
          | true =>
            have HR := hid (h2 rfl)
            clear h1 h2
            go_wp2_with fail
            go_ret
            exact ⟨by rw [HR.out]; rfl, S.out.bel⟩
          | false =>
            have P3 := hid (h1 rfl)
            clear h1 h2
            have P3' := P3.out
            unfold rP3 at P3'
            simp only [Bool.and_eq_true] at P3'
            have Knames := hid P3'.2.1; have Klinks := hid P3'.2.2.1; have Kcustom := hid P3'.2.2.2
            clear P3'
            go_upto_block 2 with (fail)
            go_cut [] (fun wx => RrSt O s w b wx ∧ allO isT 6 O.names = true)
            case first =>
              as_aux_lemma =>
                have hlen : O.names.length = s.names.n := Nnames.out
                have hsm := S.out.m.names.sm
                have HSM := hid hsm
                clear hsm hlen
                go_wp2_with fail
                go_loopw [5] (fun y wr => ∃ k : Nat, k ≤ s.names.n ∧ y = .int .i64 k ∧ RrSt O s w b wr ∧ AllTo isT O.names k) (fun y _ => s.names.n - (intOf y).toNat)
                case atStart => exact ⟨0, Nat.zero_le _, rfl, S.out, AllTo.zero⟩
                case round =>
                  obtain ⟨k, hk, rfl, hs, hat⟩ := hrel
                  clear S
                  have S := hid hs; have HAT := hid hat
                  clear hs hat
                  have hsm := HSM.out
                  by_cases hlt : k < s.names.n
                  · obtain ⟨b1, o1, x, ha1, hx1, hd1⟩ := S.out.m.names.one hlt
                    have HX := hid hx1
                    have XN : Hid (∀ wr, RrSt O s w b wr → wr.cell? ⟨b1, o1 + k, none⟩ = some (.string x)) := fun wr hw => by
                      obtain ⟨b2, o2, x2, ha2, hx2, hd2⟩ := hw.m.names.one hlt
                      rw [ha1] at ha2
                      cases ha2
                      rw [hx1] at hx2
                      cases hx2
                      exact hd2
                    have HA1 := hid ha1
                    clear hd1 ha1 hx1
                    have ds := S.out.cell (oc29 O s)
                    rw [HA1.out] at ds
                    go_upto_block 4 with (fail)
                    go_cut [6] (fun _ wx => RrSt O s w b wx ∧ memB x (O.names.take k) = false)
                    case first =>
                      go_wp2_with fail
                      go_loopw [6] (fun z wr2 => ∃ j : Nat, j ≤ k ∧ z = .int .i64 j ∧ RrSt O s w b wr2 ∧ x ∉ O.names.take j) (fun z _ => k - (intOf z).toNat)
                      case atStart => exact ⟨0, Nat.zero_le _, rfl, S.out, by simp⟩
                      case round =>
                        obtain ⟨j, hj, rfl, hs, hni⟩ := hrel
                        clear S ds
                        have S := hid hs; have HNI := hid hni
                        clear hs hni
                        by_cases hjt : j < k
                        · obtain ⟨b2, o2, y, ha2, hx2, hd2⟩ := S.out.m.names.one (show j < s.names.n by omega)
                          rw [HA1.out] at ha2
                          cases ha2
                          have HY := hid hx2; have C2 := hid hd2; have C1 := hid (XN.out _ S.out)
                          have CS := hid (S.out.cell (oc29 O s))
                          clear hx2 hd2
                          rw [HA1.out] at CS
                          have ds := CS.out
                          have hjn : j < s.names.n := by omega
                          by_cases hxy : x = y
                          · subst hxy
                            have HR : Hid (rightO O = false) := by
                              show _ = _
                              have hm : memB x (O.names.take k) = true := memB_iff.2 (List.mem_of_getElem? (show (O.names.take k)[j]? = some x from by rw [List.getElem?_take, if_pos hjt]; exact HY.out))
                              have hall : allO isT 6 O.names = false := all_twice HX.out hm
                              unfold rightO
                              rw [hall]
                              simp
                            go_upto_region 17 with (fail)
                            refine wp_region_each 11 [.eq (.pointer (some ⟨b, 29, none⟩)), .eq (.slice (some ⟨b1, o1, none⟩) s.names.n s.names.c), .eq (.int .i64 (k : Int)), .eq (.pointer (some ⟨b1, o1 + k, none⟩)), .eq (.string x), .eq (.pointer (some ⟨b, 29, none⟩)), .eq (.slice (some ⟨b1, o1, none⟩) s.names.n s.names.c), .eq (.int .i64 (j : Int)), .eq (.pointer (some ⟨b1, o1 + j, none⟩)), .eq (.string x), .eq (.bool true)] (by kernel_rfl) (by kernel_rfl) (by kernel_rfl) (by kernel_rfl) ?_ ?_
                            · all_goals
                                refine each_5 ?_ ?_ ?_ ?_ ?_ (each_5 ?_ ?_ ?_ ?_ ?_ (each_c ?_ (each_n)))
                                · intro w1 hg Ar seen
                                  have s1 := seen.sl 1 (.pointer (some ⟨b, 0, none⟩))
                                  refine does_plain rfl fun K Q' hK => ?_
                                  go_simp; exact hK _ _ (Grow.refl _) rfl
                                · intro w1 hg Ar seen
                                  have e0 := seen.de 0 172
                                  refine does_plain rfl fun K Q' hK => ?_
                                  have hc := cell_later hg CS.out
                                  go_simp; exact hK _ _ (Grow.refl _) rfl
                                · intro w1 hg Ar seen
                                  have s5 := seen.sl 5 (.int .i64 (k : Int))
                                  refine does_plain rfl fun K Q' hK => ?_
                                  go_simp; exact hK _ _ (Grow.refl _) rfl
                                · intro w1 hg Ar seen
                                  have e1 := seen.de 1 173
                                  have e2 := seen.de 2 174
                                  refine does_plain rfl fun K Q' hK => ?_
                                  go_simp; exact hK _ _ (Grow.refl _) rfl
                                · intro w1 hg Ar seen
                                  have e3 := seen.de 3 175
                                  refine does_plain rfl fun K Q' hK => ?_
                                  have hc := cellLater hg C1.out
                                  go_simp; exact hK _ _ (Grow.refl _) rfl
                                · intro w1 hg Ar seen
                                  have s1 := seen.sl 1 (.pointer (some ⟨b, 0, none⟩))
                                  refine does_plain rfl fun K Q' hK => ?_
                                  go_simp; exact hK _ _ (Grow.refl _) rfl
                                · intro w1 hg Ar seen
                                  have e5 := seen.de 5 177
                                  refine does_plain rfl fun K Q' hK => ?_
                                  have hc := cell_later hg CS.out
                                  go_simp; exact hK _ _ (Grow.refl _) rfl
                                · intro w1 hg Ar seen
                                  have s6 := seen.sl 6 (.int .i64 (j : Int))
                                  refine does_plain rfl fun K Q' hK => ?_
                                  go_simp; exact hK _ _ (Grow.refl _) rfl
                                · intro w1 hg Ar seen
                                  have e6 := seen.de 6 178
                                  have e7 := seen.de 7 179
                                  refine does_plain rfl fun K Q' hK => ?_
                                  go_simp; exact hK _ _ (Grow.refl _) rfl
                                · intro w1 hg Ar seen
                                  have e8 := seen.de 8 180
                                  refine does_plain rfl fun K Q' hK => ?_
                                  have hc := cellLater hg C2.out
                                  go_simp; exact hK _ _ (Grow.refl _) rfl
                                · intro w1 hg Ar seen
                                  have e4 := seen.de 4 176
                                  have e9 := seen.de 9 181
                                  refine does_plain rfl fun K Q' hK => ?_
                                  go_simp; exact hK _ _ (Grow.refl _) rfl
                            intro w1 hg
                            refine upon_w' (js := [0, 1, 2, 3, 4, 5, 6, 7, 8, 9, 10]) (by rfl) ?_
                            refine upon_e (some 172) (upon_e (some 173) (upon_e (some 174) (upon_e (some 175) (upon_e (some 176) (upon_e (some 177) (upon_e (some 178) (upon_e (some 179) (upon_e (some 180) (upon_e (some 181) (upon_e (some 182) (upon_n ?_)))))))))))
                            go_simp
                            have S' := hid (S.out.below hg)
                            clear hg S
                            have S := S'
                            clear S'
                            go_wp2_with fail
                            go_ret
                            exact ⟨by rw [HR.out]; rfl, S.out.bel⟩
                          · have HNE := hid (show (x.toList == y.toList) = false from bytes_ne hxy)
                            have HNI2 := hid (notinA HNI.out HY.out hxy)
                            clear hxy
                            go_upto_region 17 with (fail)
                            refine wp_region_each 11 [.eq (.pointer (some ⟨b, 29, none⟩)), .eq (.slice (some ⟨b1, o1, none⟩) s.names.n s.names.c), .eq (.int .i64 (k : Int)), .eq (.pointer (some ⟨b1, o1 + k, none⟩)), .eq (.string x), .eq (.pointer (some ⟨b, 29, none⟩)), .eq (.slice (some ⟨b1, o1, none⟩) s.names.n s.names.c), .eq (.int .i64 (j : Int)), .eq (.pointer (some ⟨b1, o1 + j, none⟩)), .eq (.string y), .eq (.bool false)] (by kernel_rfl) (by kernel_rfl) (by kernel_rfl) (by kernel_rfl) ?_ ?_
                            · all_goals
                                refine each_5 ?_ ?_ ?_ ?_ ?_ (each_5 ?_ ?_ ?_ ?_ ?_ (each_c ?_ (each_n)))
                                · intro w1 hg Ar seen
                                  have s1 := seen.sl 1 (.pointer (some ⟨b, 0, none⟩))
                                  refine does_plain rfl fun K Q' hK => ?_
                                  go_simp; exact hK _ _ (Grow.refl _) rfl
                                · intro w1 hg Ar seen
                                  have e0 := seen.de 0 172
                                  refine does_plain rfl fun K Q' hK => ?_
                                  have hc := cell_later hg CS.out
                                  go_simp; exact hK _ _ (Grow.refl _) rfl
                                · intro w1 hg Ar seen
                                  have s5 := seen.sl 5 (.int .i64 (k : Int))
                                  refine does_plain rfl fun K Q' hK => ?_
                                  go_simp; exact hK _ _ (Grow.refl _) rfl
                                · intro w1 hg Ar seen
                                  have e1 := seen.de 1 173
                                  have e2 := seen.de 2 174
                                  refine does_plain rfl fun K Q' hK => ?_
                                  go_simp; exact hK _ _ (Grow.refl _) rfl
                                · intro w1 hg Ar seen
                                  have e3 := seen.de 3 175
                                  refine does_plain rfl fun K Q' hK => ?_
                                  have hc := cellLater hg C1.out
                                  go_simp; exact hK _ _ (Grow.refl _) rfl
                                · intro w1 hg Ar seen
                                  have s1 := seen.sl 1 (.pointer (some ⟨b, 0, none⟩))
                                  refine does_plain rfl fun K Q' hK => ?_
                                  go_simp; exact hK _ _ (Grow.refl _) rfl
                                · intro w1 hg Ar seen
                                  have e5 := seen.de 5 177
                                  refine does_plain rfl fun K Q' hK => ?_
                                  have hc := cell_later hg CS.out
                                  go_simp; exact hK _ _ (Grow.refl _) rfl
                                · intro w1 hg Ar seen
                                  have s6 := seen.sl 6 (.int .i64 (j : Int))
                                  refine does_plain rfl fun K Q' hK => ?_
                                  go_simp; exact hK _ _ (Grow.refl _) rfl
                                · intro w1 hg Ar seen
                                  have e6 := seen.de 6 178
                                  have e7 := seen.de 7 179
                                  refine does_plain rfl fun K Q' hK => ?_
                                  go_simp; exact hK _ _ (Grow.refl _) rfl
                                · intro w1 hg Ar seen
                                  have e8 := seen.de 8 180
                                  refine does_plain rfl fun K Q' hK => ?_
                                  have hc := cellLater hg C2.out
                                  go_simp; exact hK _ _ (Grow.refl _) rfl
                                · intro w1 hg Ar seen
                                  have e4 := seen.de 4 176
                                  have e9 := seen.de 9 181
                                  refine does_plain rfl fun K Q' hK => ?_
                                  have hq := HNE.out
                                  go_simp; exact hK _ _ (Grow.refl _) rfl
                            intro w1 hg
                            refine upon_w' (js := [0, 1, 2, 3, 4, 5, 6, 7, 8, 9, 10]) (by rfl) ?_
                            refine upon_e (some 172) (upon_e (some 173) (upon_e (some 174) (upon_e (some 175) (upon_e (some 176) (upon_e (some 177) (upon_e (some 178) (upon_e (some 179) (upon_e (some 180) (upon_e (some 181) (upon_e (some 182) (upon_n ?_)))))))))))
                            go_simp
                            have S' := hid (S.out.below hg)
                            clear hg S
                            have S := S'
                            clear S'
                            go_wp2_with fail
                            go_roundw
                            case rel =>
                              first
                                | exact ⟨j + 1, by omega, by go_num, S.out, HNI2.out⟩
                                | ((repeat apply Exists.intro); exact ⟨⟨j + 1, by omega, by go_num, S.out, HNI2.out⟩, rfl⟩)
                            case measure => simp [intOf]; omega
                        · obtain rfl : j = k := by omega
                          go_wp2_with fail
                          go_meet
                          exact ⟨S.out, memB_no HNI.out⟩
                    case rest =>
                      obtain ⟨hs, hmem⟩ := hcut
                      clear S ds
                      have S := hid hs; have HMEM := hid hmem
                      clear hs hmem
                      have ds := S.out.cell (oc29 O s)
                      rw [HA1.out] at ds
                      have C1 := hid (XN.out _ S.out)
                      have c1 := C1.out
                      go_wp2_with fail
                      clear c1
                      refine (risText_any x _ S.out.ut).mono ?_
                      rintro e W9 ⟨rfl, hb⟩
                      dsimp only
                      have S' := hid (S.out.below hb)
                      have ds' := cell_later hb ds
                      have C1' := hid (XN.out _ (S.out.below hb))
                      clear hb S ds C1
                      have S := S'; have ds := ds'; have C1 := C1'
                      clear S' ds' C1'
                      cases q : isT x with
                      | false =>
                        have HR : Hid (rightO O = false) := by
                          show _ = _
                          have hall : allO isT 6 O.names = false := all_bad HX.out (q)
                          unfold rightO
                          rw [hall]
                          simp
                        go_wp2_with fail
                        go_ret
                        exact ⟨by rw [HR.out]; rfl, S.out.bel⟩
                      | true =>
                        have HAT2 := hid (HAT.out.step HX.out (q) HMEM.out)
                        go_wp2_with fail
                        go_roundw
                        case rel =>
                          first
                            | exact ⟨k + 1, by omega, by go_num, S.out, HAT2.out⟩
                            | ((repeat apply Exists.intro); exact ⟨⟨k + 1, by omega, by go_num, S.out, HAT2.out⟩, rfl⟩)
                        case measure => simp [intOf]; omega
                  · obtain hkn : k = s.names.n := by omega
                    have hall : allO isT 6 O.names = true := by
                      rw [AllTo.done HAT.out (Nnames.out.trans hkn.symm)]
                      have := Knames.out
                      simp at this ⊢
                      have := Nnames.out
                      omega
                    have HALL := hid hall
                    clear hall
                    have ds := S.out.cell (oc29 O s)
                    subst hkn
                    go_wp2_with fail
                    go_meet
                    exact ⟨S.out, HALL.out⟩
            case rest =>
              obtain ⟨hs, hn⟩ := hcut
              clear S
              have S := hid hs; have PN := hid hn
              clear hs hn
              go_upto_block 6 with (fail)
              go_cut [] (fun wx => RrSt O s w b wx ∧ allO linkOk 8 O.links = true)
              case first =>
                as_aux_lemma =>
                  have hlen : O.links.length = s.links.n := Nlinks.out
                  have hsm := S.out.m.links.sm
                  have HSM := hid hsm
                  clear hsm hlen
                  go_wp2_with fail
                  go_loopw [7] (fun y wr => ∃ k : Nat, k ≤ s.links.n ∧ y = .int .i64 k ∧ RrSt O s w b wr ∧ AllTo linkOk O.links k) (fun y _ => s.links.n - (intOf y).toNat)
                  case atStart => exact ⟨0, Nat.zero_le _, rfl, S.out, AllTo.zero⟩
                  case round =>
                    obtain ⟨k, hk, rfl, hs, hat⟩ := hrel
                    clear S
                    have S := hid hs; have HAT := hid hat
                    clear hs hat
                    have hsm := HSM.out
                    by_cases hlt : k < s.links.n
                    · obtain ⟨b1, o1, x, ha1, hx1, hd1⟩ := S.out.m.links.pairR hlt
                      have HX := hid hx1
                      have XN : Hid (∀ wr, RrSt O s w b wr → wr.rangeAt b1 (o1 + k * 2) [.int .i64 x.1, .string x.2]) := fun wr hw => by
                        obtain ⟨b2, o2, x2, ha2, hx2, hd2⟩ := hw.m.links.pairR hlt
                        rw [ha1] at ha2
                        cases ha2
                        rw [hx1] at hx2
                        cases hx2
                        exact hd2
                      have HA1 := hid ha1
                      clear hd1 ha1 hx1
                      have ds := S.out.cell (oc30 O s)
                      rw [HA1.out] at ds
                      go_upto_block 8 with (fail)
                      go_cut [8] (fun _ wx => RrSt O s w b wx ∧ memB x (O.links.take k) = false)
                      case first =>
                        go_wp2_with fail
                        go_loopw [8] (fun z wr2 => ∃ j : Nat, j ≤ k ∧ z = .int .i64 j ∧ RrSt O s w b wr2 ∧ x ∉ O.links.take j) (fun z _ => k - (intOf z).toNat)
                        case atStart => exact ⟨0, Nat.zero_le _, rfl, S.out, by simp⟩
                        case round =>
                          obtain ⟨j, hj, rfl, hs, hni⟩ := hrel
                          clear S ds
                          have S := hid hs; have HNI := hid hni
                          clear hs hni
                          by_cases hjt : j < k
                          · obtain ⟨b2, o2, y, ha2, hx2, hd2⟩ := S.out.m.links.pairR (show j < s.links.n by omega)
                            rw [HA1.out] at ha2
                            cases ha2
                            have HY := hid hx2; have C2 := hid hd2; have C1 := hid (XN.out _ S.out)
                            have CS := hid (S.out.cell (oc30 O s))
                            clear hx2 hd2
                            rw [HA1.out] at CS
                            have ds := CS.out
                            have hjn : j < s.links.n := by omega
                            by_cases hxy : x = y
                            · subst hxy
                              have HR : Hid (rightO O = false) := by
                                show _ = _
                                have hm : memB x (O.links.take k) = true := memB_iff.2 (List.mem_of_getElem? (show (O.links.take k)[j]? = some x from by rw [List.getElem?_take, if_pos hjt]; exact HY.out))
                                have hall : allO linkOk 8 O.links = false := all_twice HX.out hm
                                unfold rightO
                                rw [hall]
                                simp
                              go_upto_region 27 with (fail)
                              refine wp_region_each 11 [.eq (.pointer (some ⟨b, 30, none⟩)), .eq (.slice (some ⟨b1, o1, none⟩) s.links.n s.links.c), .eq (.int .i64 (k : Int)), .eq (.pointer (some ⟨b1, o1 + k * 2, none⟩)), .eq (.agg #[.int .i64 x.1, .string x.2]), .eq (.pointer (some ⟨b, 30, none⟩)), .eq (.slice (some ⟨b1, o1, none⟩) s.links.n s.links.c), .eq (.int .i64 (j : Int)), .eq (.pointer (some ⟨b1, o1 + j * 2, none⟩)), .eq (.agg #[.int .i64 x.1, .string x.2]), .eq (.bool true)] (by kernel_rfl) (by kernel_rfl) (by kernel_rfl) (by kernel_rfl) ?_ ?_
                              · all_goals
                                  refine each_5 ?_ ?_ ?_ ?_ ?_ (each_5 ?_ ?_ ?_ ?_ ?_ (each_c ?_ (each_n)))
                                  · intro w1 hg Ar seen
                                    have s1 := seen.sl 1 (.pointer (some ⟨b, 0, none⟩))
                                    refine does_plain rfl fun K Q' hK => ?_
                                    go_simp; exact hK _ _ (Grow.refl _) rfl
                                  · intro w1 hg Ar seen
                                    have e0 := seen.de 0 202
                                    refine does_plain rfl fun K Q' hK => ?_
                                    have hc := cell_later hg CS.out
                                    go_simp; exact hK _ _ (Grow.refl _) rfl
                                  · intro w1 hg Ar seen
                                    have s7 := seen.sl 7 (.int .i64 (k : Int))
                                    refine does_plain rfl fun K Q' hK => ?_
                                    go_simp; exact hK _ _ (Grow.refl _) rfl
                                  · intro w1 hg Ar seen
                                    have e1 := seen.de 1 203
                                    have e2 := seen.de 2 204
                                    refine does_plain rfl fun K Q' hK => ?_
                                    go_simp; exact hK _ _ (Grow.refl _) rfl
                                  · intro w1 hg Ar seen
                                    have e3 := seen.de 3 205
                                    refine does_plain rfl fun K Q' hK => ?_
                                    refine wp_load_mid 56 _ rfl b1 (o1 + k * 2) (by simp [Act.eval, e3]) [.int .i64 x.1, .string x.2] _ (range_below hg C1.out) Tryd.underlying56 rfl oSzL ?_
                                    exact hK _ _ (Grow.refl _) rfl
                                  · intro w1 hg Ar seen
                                    have s1 := seen.sl 1 (.pointer (some ⟨b, 0, none⟩))
                                    refine does_plain rfl fun K Q' hK => ?_
                                    go_simp; exact hK _ _ (Grow.refl _) rfl
                                  · intro w1 hg Ar seen
                                    have e5 := seen.de 5 207
                                    refine does_plain rfl fun K Q' hK => ?_
                                    have hc := cell_later hg CS.out
                                    go_simp; exact hK _ _ (Grow.refl _) rfl
                                  · intro w1 hg Ar seen
                                    have s8 := seen.sl 8 (.int .i64 (j : Int))
                                    refine does_plain rfl fun K Q' hK => ?_
                                    go_simp; exact hK _ _ (Grow.refl _) rfl
                                  · intro w1 hg Ar seen
                                    have e6 := seen.de 6 208
                                    have e7 := seen.de 7 209
                                    refine does_plain rfl fun K Q' hK => ?_
                                    go_simp; exact hK _ _ (Grow.refl _) rfl
                                  · intro w1 hg Ar seen
                                    have e8 := seen.de 8 210
                                    refine does_plain rfl fun K Q' hK => ?_
                                    refine wp_load_mid 56 _ rfl b1 (o1 + j * 2) (by simp [Act.eval, e8]) [.int .i64 x.1, .string x.2] _ (range_below hg C2.out) Tryd.underlying56 rfl oSzL ?_
                                    exact hK _ _ (Grow.refl _) rfl
                                  · intro w1 hg Ar seen
                                    have e4 := seen.de 4 206
                                    have e9 := seen.de 9 211
                                    refine does_plain rfl fun K Q' hK => ?_
                                    have hq : ∀ w, (binOp .eql 56 (.agg #[.int .i64 x.1, .string x.2]) (.agg #[.int .i64 x.1, .string x.2])).run Tryd.prog w = .ok (.bool true) w := (fun w => by rw [eqQL]; simp)
                                    go_simp; exact hK _ _ (Grow.refl _) rfl
                              intro w1 hg
                              refine upon_w' (js := [0, 1, 2, 3, 4, 5, 6, 7, 8, 9, 10]) (by rfl) ?_
                              refine upon_e (some 202) (upon_e (some 203) (upon_e (some 204) (upon_e (some 205) (upon_e (some 206) (upon_e (some 207) (upon_e (some 208) (upon_e (some 209) (upon_e (some 210) (upon_e (some 211) (upon_e (some 212) (upon_n ?_)))))))))))
                              go_simp
                              have S' := hid (S.out.below hg)
                              clear hg S
                              have S := S'
                              clear S'
                              go_wp2_with fail
                              go_ret
                              exact ⟨by rw [HR.out]; rfl, S.out.bel⟩
                            · have HNE := hid hxy
                              have HNI2 := hid (notinA HNI.out HY.out hxy)
                              clear hxy
                              go_upto_region 27 with (fail)
                              refine wp_region_each 11 [.eq (.pointer (some ⟨b, 30, none⟩)), .eq (.slice (some ⟨b1, o1, none⟩) s.links.n s.links.c), .eq (.int .i64 (k : Int)), .eq (.pointer (some ⟨b1, o1 + k * 2, none⟩)), .eq (.agg #[.int .i64 x.1, .string x.2]), .eq (.pointer (some ⟨b, 30, none⟩)), .eq (.slice (some ⟨b1, o1, none⟩) s.links.n s.links.c), .eq (.int .i64 (j : Int)), .eq (.pointer (some ⟨b1, o1 + j * 2, none⟩)), .eq (.agg #[.int .i64 y.1, .string y.2]), .eq (.bool false)] (by kernel_rfl) (by kernel_rfl) (by kernel_rfl) (by kernel_rfl) ?_ ?_
                              · all_goals
                                  refine each_5 ?_ ?_ ?_ ?_ ?_ (each_5 ?_ ?_ ?_ ?_ ?_ (each_c ?_ (each_n)))
                                  · intro w1 hg Ar seen
                                    have s1 := seen.sl 1 (.pointer (some ⟨b, 0, none⟩))
                                    refine does_plain rfl fun K Q' hK => ?_
                                    go_simp; exact hK _ _ (Grow.refl _) rfl
                                  · intro w1 hg Ar seen
                                    have e0 := seen.de 0 202
                                    refine does_plain rfl fun K Q' hK => ?_
                                    have hc := cell_later hg CS.out
                                    go_simp; exact hK _ _ (Grow.refl _) rfl
                                  · intro w1 hg Ar seen
                                    have s7 := seen.sl 7 (.int .i64 (k : Int))
                                    refine does_plain rfl fun K Q' hK => ?_
                                    go_simp; exact hK _ _ (Grow.refl _) rfl
                                  · intro w1 hg Ar seen
                                    have e1 := seen.de 1 203
                                    have e2 := seen.de 2 204
                                    refine does_plain rfl fun K Q' hK => ?_
                                    go_simp; exact hK _ _ (Grow.refl _) rfl
                                  · intro w1 hg Ar seen
                                    have e3 := seen.de 3 205
                                    refine does_plain rfl fun K Q' hK => ?_
                                    refine wp_load_mid 56 _ rfl b1 (o1 + k * 2) (by simp [Act.eval, e3]) [.int .i64 x.1, .string x.2] _ (range_below hg C1.out) Tryd.underlying56 rfl oSzL ?_
                                    exact hK _ _ (Grow.refl _) rfl
                                  · intro w1 hg Ar seen
                                    have s1 := seen.sl 1 (.pointer (some ⟨b, 0, none⟩))
                                    refine does_plain rfl fun K Q' hK => ?_
                                    go_simp; exact hK _ _ (Grow.refl _) rfl
                                  · intro w1 hg Ar seen
                                    have e5 := seen.de 5 207
                                    refine does_plain rfl fun K Q' hK => ?_
                                    have hc := cell_later hg CS.out
                                    go_simp; exact hK _ _ (Grow.refl _) rfl
                                  · intro w1 hg Ar seen
                                    have s8 := seen.sl 8 (.int .i64 (j : Int))
                                    refine does_plain rfl fun K Q' hK => ?_
                                    go_simp; exact hK _ _ (Grow.refl _) rfl
                                  · intro w1 hg Ar seen
                                    have e6 := seen.de 6 208
                                    have e7 := seen.de 7 209
                                    refine does_plain rfl fun K Q' hK => ?_
                                    go_simp; exact hK _ _ (Grow.refl _) rfl
                                  · intro w1 hg Ar seen
                                    have e8 := seen.de 8 210
                                    refine does_plain rfl fun K Q' hK => ?_
                                    refine wp_load_mid 56 _ rfl b1 (o1 + j * 2) (by simp [Act.eval, e8]) [.int .i64 y.1, .string y.2] _ (range_below hg C2.out) Tryd.underlying56 rfl oSzL ?_
                                    exact hK _ _ (Grow.refl _) rfl
                                  · intro w1 hg Ar seen
                                    have e4 := seen.de 4 206
                                    have e9 := seen.de 9 211
                                    refine does_plain rfl fun K Q' hK => ?_
                                    have hq : ∀ w, (binOp .eql 56 (.agg #[.int .i64 x.1, .string x.2]) (.agg #[.int .i64 y.1, .string y.2])).run Tryd.prog w = .ok (.bool false) w := (fun w => by rw [eqQL]; simp [HNE.out])
                                    go_simp; exact hK _ _ (Grow.refl _) rfl
                              intro w1 hg
                              refine upon_w' (js := [0, 1, 2, 3, 4, 5, 6, 7, 8, 9, 10]) (by rfl) ?_
                              refine upon_e (some 202) (upon_e (some 203) (upon_e (some 204) (upon_e (some 205) (upon_e (some 206) (upon_e (some 207) (upon_e (some 208) (upon_e (some 209) (upon_e (some 210) (upon_e (some 211) (upon_e (some 212) (upon_n ?_)))))))))))
                              go_simp
                              have S' := hid (S.out.below hg)
                              clear hg S
                              have S := S'
                              clear S'
                              go_wp2_with fail
                              go_roundw
                              case rel =>
                                first
                                  | exact ⟨j + 1, by omega, by go_num, S.out, HNI2.out⟩
                                  | ((repeat apply Exists.intro); exact ⟨⟨j + 1, by omega, by go_num, S.out, HNI2.out⟩, rfl⟩)
                              case measure => simp [intOf]; omega
                          · obtain rfl : j = k := by omega
                            go_wp2_with fail
                            go_meet
                            exact ⟨S.out, memB_no HNI.out⟩
                      case rest =>
                        obtain ⟨hs, hmem⟩ := hcut
                        clear S ds
                        have S := hid hs; have HMEM := hid hmem
                        clear hs hmem
                        have ds := S.out.cell (oc30 O s)
                        rw [HA1.out] at ds
                        have C1 := hid (XN.out _ S.out)
                        have c1 := C1.out 0 _ rfl
                        have c2 := C1.out 1 _ rfl
                        rw [Nat.add_zero] at c1
                        by_cases h1 : x.1 < 101
                        · have q : linkOk x = false := by unfold linkOk; rw [inB_lo h1]; rfl
                          have HR : Hid (rightO O = false) := by
                            show _ = _
                            have hall : allO linkOk 8 O.links = false := all_bad HX.out (q)
                            unfold rightO
                            rw [hall]
                            simp
                          go_wp2_with fail
                          go_ret
                          exact ⟨by rw [HR.out]; rfl, S.out.bel⟩
                        · by_cases h2 : 110 < x.1
                          · have q : linkOk x = false := by unfold linkOk; rw [inB_hi h2]; rfl
                            have HR : Hid (rightO O = false) := by
                              show _ = _
                              have hall : allO linkOk 8 O.links = false := all_bad HX.out (q)
                              unfold rightO
                              rw [hall]
                              simp
                            go_wp2_with fail
                            go_ret
                            exact ⟨by rw [HR.out]; rfl, S.out.bel⟩
                          · have QI := hid (inB_ok h1 h2)
                            go_wp2_with fail
                            clear c1 c2 h1 h2
                            refine (risText_any x.2 _ S.out.ut).mono ?_
                            rintro e W9 ⟨rfl, hb⟩
                            dsimp only
                            have S' := hid (S.out.below hb)
                            have ds' := cell_later hb ds
                            have C1' := hid (XN.out _ (S.out.below hb))
                            clear hb S ds C1
                            have S := S'; have ds := ds'; have C1 := C1'
                            clear S' ds' C1'
                            cases q : isT x.2 with
                            | false =>
                              have HR : Hid (rightO O = false) := by
                                show _ = _
                                have hall : allO linkOk 8 O.links = false := all_bad HX.out (by unfold linkOk; rw [q]; simp)
                                unfold rightO
                                rw [hall]
                                simp
                              go_wp2_with fail
                              go_ret
                              exact ⟨by rw [HR.out]; rfl, S.out.bel⟩
                            | true =>
                              have HAT2 := hid (HAT.out.step HX.out (by unfold linkOk; rw [QI.out, q]; rfl) HMEM.out)
                              go_wp2_with fail
                              go_roundw
                              case rel =>
                                first
                                  | exact ⟨k + 1, by omega, by go_num, S.out, HAT2.out⟩
                                  | ((repeat apply Exists.intro); exact ⟨⟨k + 1, by omega, by go_num, S.out, HAT2.out⟩, rfl⟩)
                              case measure => simp [intOf]; omega
                    · obtain hkn : k = s.links.n := by omega
                      have hall : allO linkOk 8 O.links = true := by
                        rw [AllTo.done HAT.out (Nlinks.out.trans hkn.symm)]
                        have := Klinks.out
                        simp at this ⊢
                        have := Nlinks.out
                        omega
                      have HALL := hid hall
                      clear hall
                      have ds := S.out.cell (oc30 O s)
                      subst hkn
                      go_wp2_with fail
                      go_meet
                      exact ⟨S.out, HALL.out⟩
              case rest =>
                obtain ⟨hs, hn⟩ := hcut
                clear S
                have S := hid hs; have PL := hid hn
                clear hs hn
                go_upto_block 10 with (fail)
                go_cut [] (fun wx => RrSt O s w b wx ∧ allO custOk 6 O.custom = true)
                case first =>
                  as_aux_lemma =>
                    have hlen : O.custom.length = s.custom.n := Ncustom.out
                    have hsm := S.out.m.custom.sm
                    have HSM := hid hsm
                    clear hsm hlen
                    go_wp2_with fail
                    go_loopw [9] (fun y wr => ∃ k : Nat, k ≤ s.custom.n ∧ y = .int .i64 k ∧ RrSt O s w b wr ∧ AllTo custOk O.custom k) (fun y _ => s.custom.n - (intOf y).toNat)
                    case atStart => exact ⟨0, Nat.zero_le _, rfl, S.out, AllTo.zero⟩
                    case round =>
                      obtain ⟨k, hk, rfl, hs, hat⟩ := hrel
                      clear S
                      have S := hid hs; have HAT := hid hat
                      clear hs hat
                      have hsm := HSM.out
                      by_cases hlt : k < s.custom.n
                      · obtain ⟨b1, o1, x, ha1, hx1, hd1⟩ := S.out.m.custom.pairR hlt
                        have HX := hid hx1
                        have XN : Hid (∀ wr, RrSt O s w b wr → wr.rangeAt b1 (o1 + k * 2) [.string x.1, .string x.2]) := fun wr hw => by
                          obtain ⟨b2, o2, x2, ha2, hx2, hd2⟩ := hw.m.custom.pairR hlt
                          rw [ha1] at ha2
                          cases ha2
                          rw [hx1] at hx2
                          cases hx2
                          exact hd2
                        have HA1 := hid ha1
                        clear hd1 ha1 hx1
                        have ds := S.out.cell (oc31 O s)
                        rw [HA1.out] at ds
                        go_upto_block 12 with (fail)
                        go_cut [10] (fun _ wx => RrSt O s w b wx ∧ memB x (O.custom.take k) = false)
                        case first =>
                          go_wp2_with fail
                          go_loopw [10] (fun z wr2 => ∃ j : Nat, j ≤ k ∧ z = .int .i64 j ∧ RrSt O s w b wr2 ∧ x ∉ O.custom.take j) (fun z _ => k - (intOf z).toNat)
                          case atStart => exact ⟨0, Nat.zero_le _, rfl, S.out, by simp⟩
                          case round =>
                            obtain ⟨j, hj, rfl, hs, hni⟩ := hrel
                            clear S ds
                            have S := hid hs; have HNI := hid hni
                            clear hs hni
                            by_cases hjt : j < k
                            · obtain ⟨b2, o2, y, ha2, hx2, hd2⟩ := S.out.m.custom.pairR (show j < s.custom.n by omega)
                              rw [HA1.out] at ha2
                              cases ha2
                              have HY := hid hx2; have C2 := hid hd2; have C1 := hid (XN.out _ S.out)
                              have CS := hid (S.out.cell (oc31 O s))
                              clear hx2 hd2
                              rw [HA1.out] at CS
                              have ds := CS.out
                              have hjn : j < s.custom.n := by omega
                              by_cases hxy : x = y
                              · subst hxy
                                have HR : Hid (rightO O = false) := by
                                  show _ = _
                                  have hm : memB x (O.custom.take k) = true := memB_iff.2 (List.mem_of_getElem? (show (O.custom.take k)[j]? = some x from by rw [List.getElem?_take, if_pos hjt]; exact HY.out))
                                  have hall : allO custOk 6 O.custom = false := all_twice HX.out hm
                                  unfold rightO
                                  rw [hall]
                                  simp
                                go_upto_region 37 with (fail)
                                refine wp_region_each 11 [.eq (.pointer (some ⟨b, 31, none⟩)), .eq (.slice (some ⟨b1, o1, none⟩) s.custom.n s.custom.c), .eq (.int .i64 (k : Int)), .eq (.pointer (some ⟨b1, o1 + k * 2, none⟩)), .eq (.agg #[.string x.1, .string x.2]), .eq (.pointer (some ⟨b, 31, none⟩)), .eq (.slice (some ⟨b1, o1, none⟩) s.custom.n s.custom.c), .eq (.int .i64 (j : Int)), .eq (.pointer (some ⟨b1, o1 + j * 2, none⟩)), .eq (.agg #[.string x.1, .string x.2]), .eq (.bool true)] (by kernel_rfl) (by kernel_rfl) (by kernel_rfl) (by kernel_rfl) ?_ ?_
                                · all_goals
                                    refine each_5 ?_ ?_ ?_ ?_ ?_ (each_5 ?_ ?_ ?_ ?_ ?_ (each_c ?_ (each_n)))
                                    · intro w1 hg Ar seen
                                      have s1 := seen.sl 1 (.pointer (some ⟨b, 0, none⟩))
                                      refine does_plain rfl fun K Q' hK => ?_
                                      go_simp; exact hK _ _ (Grow.refl _) rfl
                                    · intro w1 hg Ar seen
                                      have e0 := seen.de 0 251
                                      refine does_plain rfl fun K Q' hK => ?_
                                      have hc := cell_later hg CS.out
                                      go_simp; exact hK _ _ (Grow.refl _) rfl
                                    · intro w1 hg Ar seen
                                      have s9 := seen.sl 9 (.int .i64 (k : Int))
                                      refine does_plain rfl fun K Q' hK => ?_
                                      go_simp; exact hK _ _ (Grow.refl _) rfl
                                    · intro w1 hg Ar seen
                                      have e1 := seen.de 1 252
                                      have e2 := seen.de 2 253
                                      refine does_plain rfl fun K Q' hK => ?_
                                      go_simp; exact hK _ _ (Grow.refl _) rfl
                                    · intro w1 hg Ar seen
                                      have e3 := seen.de 3 254
                                      refine does_plain rfl fun K Q' hK => ?_
                                      refine wp_load_mid 58 _ rfl b1 (o1 + k * 2) (by simp [Act.eval, e3]) [.string x.1, .string x.2] _ (range_below hg C1.out) Tryd.underlying58 rfl oSzC ?_
                                      exact hK _ _ (Grow.refl _) rfl
                                    · intro w1 hg Ar seen
                                      have s1 := seen.sl 1 (.pointer (some ⟨b, 0, none⟩))
                                      refine does_plain rfl fun K Q' hK => ?_
                                      go_simp; exact hK _ _ (Grow.refl _) rfl
                                    · intro w1 hg Ar seen
                                      have e5 := seen.de 5 256
                                      refine does_plain rfl fun K Q' hK => ?_
                                      have hc := cell_later hg CS.out
                                      go_simp; exact hK _ _ (Grow.refl _) rfl
                                    · intro w1 hg Ar seen
                                      have s10 := seen.sl 10 (.int .i64 (j : Int))
                                      refine does_plain rfl fun K Q' hK => ?_
                                      go_simp; exact hK _ _ (Grow.refl _) rfl
                                    · intro w1 hg Ar seen
                                      have e6 := seen.de 6 257
                                      have e7 := seen.de 7 258
                                      refine does_plain rfl fun K Q' hK => ?_
                                      go_simp; exact hK _ _ (Grow.refl _) rfl
                                    · intro w1 hg Ar seen
                                      have e8 := seen.de 8 259
                                      refine does_plain rfl fun K Q' hK => ?_
                                      refine wp_load_mid 58 _ rfl b1 (o1 + j * 2) (by simp [Act.eval, e8]) [.string x.1, .string x.2] _ (range_below hg C2.out) Tryd.underlying58 rfl oSzC ?_
                                      exact hK _ _ (Grow.refl _) rfl
                                    · intro w1 hg Ar seen
                                      have e4 := seen.de 4 255
                                      have e9 := seen.de 9 260
                                      refine does_plain rfl fun K Q' hK => ?_
                                      have hq : ∀ w, (binOp .eql 58 (.agg #[.string x.1, .string x.2]) (.agg #[.string x.1, .string x.2])).run Tryd.prog w = .ok (.bool true) w := (fun w => by rw [eqQC]; simp)
                                      go_simp; exact hK _ _ (Grow.refl _) rfl
                                intro w1 hg
                                refine upon_w' (js := [0, 1, 2, 3, 4, 5, 6, 7, 8, 9, 10]) (by rfl) ?_
                                refine upon_e (some 251) (upon_e (some 252) (upon_e (some 253) (upon_e (some 254) (upon_e (some 255) (upon_e (some 256) (upon_e (some 257) (upon_e (some 258) (upon_e (some 259) (upon_e (some 260) (upon_e (some 261) (upon_n ?_)))))))))))
                                go_simp
                                have S' := hid (S.out.below hg)
                                clear hg S
                                have S := S'
                                clear S'
                                go_wp2_with fail
                                go_ret
                                exact ⟨by rw [HR.out]; rfl, S.out.bel⟩
                              · have HNE := hid hxy
                                have HNI2 := hid (notinA HNI.out HY.out hxy)
                                clear hxy
                                go_upto_region 37 with (fail)
                                refine wp_region_each 11 [.eq (.pointer (some ⟨b, 31, none⟩)), .eq (.slice (some ⟨b1, o1, none⟩) s.custom.n s.custom.c), .eq (.int .i64 (k : Int)), .eq (.pointer (some ⟨b1, o1 + k * 2, none⟩)), .eq (.agg #[.string x.1, .string x.2]), .eq (.pointer (some ⟨b, 31, none⟩)), .eq (.slice (some ⟨b1, o1, none⟩) s.custom.n s.custom.c), .eq (.int .i64 (j : Int)), .eq (.pointer (some ⟨b1, o1 + j * 2, none⟩)), .eq (.agg #[.string y.1, .string y.2]), .eq (.bool false)] (by kernel_rfl) (by kernel_rfl) (by kernel_rfl) (by kernel_rfl) ?_ ?_
                                · all_goals
                                    refine each_5 ?_ ?_ ?_ ?_ ?_ (each_5 ?_ ?_ ?_ ?_ ?_ (each_c ?_ (each_n)))
                                    · intro w1 hg Ar seen
                                      have s1 := seen.sl 1 (.pointer (some ⟨b, 0, none⟩))
                                      refine does_plain rfl fun K Q' hK => ?_
                                      go_simp; exact hK _ _ (Grow.refl _) rfl
                                    · intro w1 hg Ar seen
                                      have e0 := seen.de 0 251
                                      refine does_plain rfl fun K Q' hK => ?_
                                      have hc := cell_later hg CS.out
                                      go_simp; exact hK _ _ (Grow.refl _) rfl
                                    · intro w1 hg Ar seen
                                      have s9 := seen.sl 9 (.int .i64 (k : Int))
                                      refine does_plain rfl fun K Q' hK => ?_
                                      go_simp; exact hK _ _ (Grow.refl _) rfl
                                    · intro w1 hg Ar seen
                                      have e1 := seen.de 1 252
                                      have e2 := seen.de 2 253
                                      refine does_plain rfl fun K Q' hK => ?_
                                      go_simp; exact hK _ _ (Grow.refl _) rfl
                                    · intro w1 hg Ar seen
                                      have e3 := seen.de 3 254
                                      refine does_plain rfl fun K Q' hK => ?_
                                      refine wp_load_mid 58 _ rfl b1 (o1 + k * 2) (by simp [Act.eval, e3]) [.string x.1, .string x.2] _ (range_below hg C1.out) Tryd.underlying58 rfl oSzC ?_
                                      exact hK _ _ (Grow.refl _) rfl
                                    · intro w1 hg Ar seen
                                      have s1 := seen.sl 1 (.pointer (some ⟨b, 0, none⟩))
                                      refine does_plain rfl fun K Q' hK => ?_
                                      go_simp; exact hK _ _ (Grow.refl _) rfl
                                    · intro w1 hg Ar seen
                                      have e5 := seen.de 5 256
                                      refine does_plain rfl fun K Q' hK => ?_
                                      have hc := cell_later hg CS.out
                                      go_simp; exact hK _ _ (Grow.refl _) rfl
                                    · intro w1 hg Ar seen
                                      have s10 := seen.sl 10 (.int .i64 (j : Int))
                                      refine does_plain rfl fun K Q' hK => ?_
                                      go_simp; exact hK _ _ (Grow.refl _) rfl
                                    · intro w1 hg Ar seen
                                      have e6 := seen.de 6 257
                                      have e7 := seen.de 7 258
                                      refine does_plain rfl fun K Q' hK => ?_
                                      go_simp; exact hK _ _ (Grow.refl _) rfl
                                    · intro w1 hg Ar seen
                                      have e8 := seen.de 8 259
                                      refine does_plain rfl fun K Q' hK => ?_
                                      refine wp_load_mid 58 _ rfl b1 (o1 + j * 2) (by simp [Act.eval, e8]) [.string y.1, .string y.2] _ (range_below hg C2.out) Tryd.underlying58 rfl oSzC ?_
                                      exact hK _ _ (Grow.refl _) rfl
                                    · intro w1 hg Ar seen
                                      have e4 := seen.de 4 255
                                      have e9 := seen.de 9 260
                                      refine does_plain rfl fun K Q' hK => ?_
                                      have hq : ∀ w, (binOp .eql 58 (.agg #[.string x.1, .string x.2]) (.agg #[.string y.1, .string y.2])).run Tryd.prog w = .ok (.bool false) w := (fun w => by rw [eqQC]; simp [HNE.out])
                                      go_simp; exact hK _ _ (Grow.refl _) rfl
                                intro w1 hg
                                refine upon_w' (js := [0, 1, 2, 3, 4, 5, 6, 7, 8, 9, 10]) (by rfl) ?_
                                refine upon_e (some 251) (upon_e (some 252) (upon_e (some 253) (upon_e (some 254) (upon_e (some 255) (upon_e (some 256) (upon_e (some 257) (upon_e (some 258) (upon_e (some 259) (upon_e (some 260) (upon_e (some 261) (upon_n ?_)))))))))))
                                go_simp
                                have S' := hid (S.out.below hg)
                                clear hg S
                                have S := S'
                                clear S'
                                go_wp2_with fail
                                go_roundw
                                case rel =>
                                  first
                                    | exact ⟨j + 1, by omega, by go_num, S.out, HNI2.out⟩
                                    | ((repeat apply Exists.intro); exact ⟨⟨j + 1, by omega, by go_num, S.out, HNI2.out⟩, rfl⟩)
                                case measure => simp [intOf]; omega
                            · obtain rfl : j = k := by omega
                              go_wp2_with fail
                              go_meet
                              exact ⟨S.out, memB_no HNI.out⟩
                        case rest =>
                          obtain ⟨hs, hmem⟩ := hcut
                          clear S ds
                          have S := hid hs; have HMEM := hid hmem
                          clear hs hmem
                          have ds := S.out.cell (oc31 O s)
                          rw [HA1.out] at ds
                          have C1 := hid (XN.out _ S.out)
                          have c1 := C1.out 0 _ rfl
                          have c2 := C1.out 1 _ rfl
                          rw [Nat.add_zero] at c1
                          go_wp2_with fail
                          clear c1 c2
                          refine (risCustom_any x.1 _ S.out.ut).mono ?_
                          rintro e W9 ⟨rfl, hb⟩
                          dsimp only
                          have S' := hid (S.out.below hb)
                          have ds' := cell_later hb ds
                          have C1' := hid (XN.out _ (S.out.below hb))
                          clear hb S ds C1
                          have S := S'; have ds := ds'; have C1 := C1'
                          clear S' ds' C1'
                          cases q : isC x.1 with
                          | false =>
                            have HR : Hid (rightO O = false) := by
                              show _ = _
                              have hall : allO custOk 6 O.custom = false := all_bad HX.out (by unfold custOk; rw [q]; rfl)
                              unfold rightO
                              rw [hall]
                              simp
                            go_wp2_with fail
                            go_ret
                            exact ⟨by rw [HR.out]; rfl, S.out.bel⟩
                          | true =>
                            have QC := hid q
                            clear q
                            have c1 := C1.out 0 _ rfl
                            have c2 := C1.out 1 _ rfl
                            rw [Nat.add_zero] at c1
                            go_wp2_with fail
                            clear c1 c2
                            refine (risText_any x.2 _ S.out.ut).mono ?_
                            rintro e W9 ⟨rfl, hb⟩
                            dsimp only
                            have S' := hid (S.out.below hb)
                            have ds' := cell_later hb ds
                            have C1' := hid (XN.out _ (S.out.below hb))
                            clear hb S ds C1
                            have S := S'; have ds := ds'; have C1 := C1'
                            clear S' ds' C1'
                            cases q : isT x.2 with
                            | false =>
                              have HR : Hid (rightO O = false) := by
                                show _ = _
                                have hall : allO custOk 6 O.custom = false := all_bad HX.out (by unfold custOk; rw [q]; simp)
                                unfold rightO
                                rw [hall]
                                simp
                              go_wp2_with fail
                              go_ret
                              exact ⟨by rw [HR.out]; rfl, S.out.bel⟩
                            | true =>
                              have HAT2 := hid (HAT.out.step HX.out (by unfold custOk; rw [QC.out, q]; rfl) HMEM.out)
                              go_wp2_with fail
                              go_roundw
                              case rel =>
                                first
                                  | exact ⟨k + 1, by omega, by go_num, S.out, HAT2.out⟩
                                  | ((repeat apply Exists.intro); exact ⟨⟨k + 1, by omega, by go_num, S.out, HAT2.out⟩, rfl⟩)
                              case measure => simp [intOf]; omega
                      · obtain hkn : k = s.custom.n := by omega
                        have hall : allO custOk 6 O.custom = true := by
                          rw [AllTo.done HAT.out (Ncustom.out.trans hkn.symm)]
                          have := Kcustom.out
                          simp at this ⊢
                          have := Ncustom.out
                          omega
                        have HALL := hid hall
                        clear hall
                        have ds := S.out.cell (oc31 O s)
                        subst hkn
                        go_wp2_with fail
                        go_meet
                        exact ⟨S.out, HALL.out⟩
                case rest =>
                  obtain ⟨hs, hn⟩ := hcut
                  clear S
                  have S := hid hs; have PC := hid hn
                  clear hs hn
                  generalize wc = W at *
                  as_aux_lemma =>
                    have hrg := hid (lim_range S.out.box)
                    go_upto_region 42 with (first | (refine wpList_load_mid rfl 33 _ rfl b 32 rfl (limL O) _ hrg.out Tryd.underlying33 rfl oSizeL ?_) | (refine wpList_alloc_obj rfl 33 rfl _ oZrM ?_) | (refine wpList_store_obj rfl 33 _ _ rfl W.heap.size rfl #[.bool O.limHas, .int .i64 O.total, .int .i64 O.count, .int .i64 O.unit] rfl _ _ (block_new W _) rfl oSizeL (oneM _ _ _ _) ?_; intro w2 hb2 hc2 hs2; have HB_w2 := hid hb2; have HC_w2 := hid hc2; clear hb2 hc2 hs2))
                    have hb : Below W.heap.size W w2 := ((Below.refl _ W).alloc (Nat.le_refl _) _).trans (HC_w2.out.below (fun k hk => by rw [List.mem_singleton.1 hk]; exact Nat.le_refl _) (by simp))
                    have S' := hid (S.out.below hb)
                    clear hb HC_w2 S hrg
                    have S := S'
                    clear S'
                    generalize W.heap.size = pd at *
                    have HLM : Hid (rightO O = limOk O) := right_yes P1.out PD.out P3.out PN.out PL.out PC.out
                    have e0 := cell_of_block (j := 0) HB_w2.out rfl
                    have e1 := cell_of_block (j := 1) HB_w2.out rfl
                    have e2 := cell_of_block (j := 2) HB_w2.out rfl
                    have e3 := cell_of_block (j := 3) HB_w2.out rfl
                    have HLO : Hid (limOk O = if O.limHas then inB O.total 1 1099511627776 && (inB O.count 0 O.total && inB O.unit 1 2) else O.total == 0 && (O.count == 0 && O.unit == 0)) := rfl
                    generalize O.limHas = lh at *
                    generalize O.total = lt at *
                    generalize O.count = lc at *
                    generalize O.unit = lu at *
                    cases lh with
                    | false =>
                      have hq : ∀ w, (binOp .eql 33 (.agg #[.bool false, .int .i64 lt, .int .i64 lc, .int .i64 lu]) (.agg #[.bool false, .int .i64 0, .int .i64 0, .int .i64 0])).run Tryd.prog w = .ok (.bool (lt == 0 && (lc == 0 && lu == 0))) w := fun w => by
                        by_cases h1 : lt = 0
                        · by_cases h2 : lc = 0
                          · by_cases h3 : lu = 0
                            · subst h1; subst h2; subst h3; go_simp
                            · have h3' : (lu == 0) = false := by simp [h3]
                              subst h1; subst h2; go_simp; try simp [h3']
                          · have h2' : (lc == 0) = false := by simp [h2]
                            subst h1; go_simp; try simp [h2']
                        · have h1' : (lt == 0) = false := by simp [h1]
                          go_simp; try simp [h1']
                      go_wp2_with (refine wpList_load_row rfl 33 _ rfl pd rfl _ _ _ _ HB_w2.out Tryd.underlying33 rfl oSizeL ?_)
                      go_ret
                      exact ⟨by rw [HLM.out, HLO.out]; rfl, S.out.bel⟩
                    | true =>
                      have fin : ∀ v, limOk O = v → Ending.returned (Value.bool v) = Ending.returned (Value.bool (rightO O)) := fun v h => by rw [HLM.out, h]
                      have HLO2 : Hid (limOk O = (inB lt 1 1099511627776 && (inB lc 0 lt && inB lu 1 2))) := HLO.out
                      by_cases h1 : 1 ≤ lt
                      · by_cases h2 : lt ≤ 1099511627776
                        · have q1 := inB_ok (n := lt) (a := 1) (c := 1099511627776) (by omega) (by omega)
                          by_cases h3 : 0 ≤ lc
                          · by_cases h4 : lc ≤ lt
                            · have q2 := inB_ok (n := lc) (a := 0) (c := lt) (by omega) (by omega)
                              by_cases h5 : lu = 1
                              · subst h5
                                go_wp2_with fail
                                go_ret
                                exact ⟨fin _ (by rw [HLO2.out, q1, q2]; rfl), S.out.bel⟩
                              · have n5 : (lu == 1) = false := by simp [h5]
                                by_cases h6 : lu = 2
                                · subst h6
                                  go_wp2_with fail
                                  go_ret
                                  exact ⟨fin _ (by rw [HLO2.out, q1, q2]; rfl), S.out.bel⟩
                                · have n6 : (lu == 2) = false := by simp [h6]
                                  have q3 : inB lu 1 2 = false := by unfold inB; simp; omega
                                  go_wp2_with fail
                                  go_ret
                                  exact ⟨fin _ (by rw [HLO2.out, q3]; simp), S.out.bel⟩
                            · have q2 := inB_hi (n := lc) (a := 0) (c := lt) (by omega)
                              go_wp2_with fail
                              go_ret
                              exact ⟨fin _ (by rw [HLO2.out, q2]; simp), S.out.bel⟩
                          · have q2 := inB_lo (n := lc) (a := 0) (c := lt) (by omega)
                            go_wp2_with fail
                            go_ret
                            exact ⟨fin _ (by rw [HLO2.out, q2]; simp), S.out.bel⟩
                        · have q1 := inB_hi (n := lt) (a := 1) (c := 1099511627776) (by omega)
                          go_wp2_with fail
                          go_ret
                          exact ⟨fin _ (by rw [HLO2.out, q1]; simp), S.out.bel⟩
                      · have q1 := inB_lo (n := lt) (a := 1) (c := 1099511627776) (by omega)
                        go_wp2_with fail
                        go_ret
                        exact ⟨fin _ (by rw [HLO2.out, q1]; simp), S.out.bel⟩
end Go.Proofs.YtdlkobmlnpijgaaDoor
