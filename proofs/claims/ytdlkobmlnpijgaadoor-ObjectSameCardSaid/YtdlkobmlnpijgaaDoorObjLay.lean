/- object.Lay. -/
import Derived.Test.YtdlkobmlnpijgaaDoorObjRight
import Derived.Test.YtdlkobmlnpijgaaDoorOctet
import Derived.Lib.ConvBytes
namespace Go.Proofs.YtdlkobmlnpijgaaDoor
open Go.RowKit
set_option linter.unusedVariables false
set_option linter.unusedSimpArgs false
set_option maxRecDepth 1000000
set_option maxHeartbeats 3200000
theorem bytesW_below (w : World) (e : TypeId) (s : ByteArray) : Below w.heap.size w (Lib.bytesWorld w e s) :=
  ⟨rfl, rfl, rfl, by rw [Lib.bytesWorld_size]; omega, fun k hk => Lib.bytesWorld_at_old w e s k hk⟩
theorem bytesW_slC (w : World) (e : TypeId) (s : ByteArray) (h : s.size ≤ 140737488355328) (c : Nat) : SlC (Lib.bytesWorld w e s) ⟨some ⟨w.heap.size, 0, none⟩, s.size, c⟩ (s.data.toList.map B8) := by
  refine ⟨⟨by simp, fun j hj => ⟨w.heap.size, 0, rfl, fun i u hu => ?_⟩⟩, by simp, h, fun k hk => ?_⟩
  · rw [List.getElem?_map] at hu
    cases hq : s.data.toList[i]? with
    | none => rw [hq] at hu; cases hu
    | some y =>
      rw [hq] at hu
      simp only [Option.map_some, Option.some.injEq] at hu
      subst hu
      have hi : i < s.size := by have := (List.getElem?_eq_some_iff.1 hq).1; simpa using this
      rw [Nat.zero_add, Lib.bytesWorld_cell w e s i hi, List.getD_eq_getElem?_getD, hq]
      rfl
  · simp [Sl.blk] at hk; rw [hk, Lib.bytesWorld_size]; omega
/-- The closure that lays a text. -/
theorem text1_any (s : ByteArray) (pw p : Nat) (l : List UInt8) (F : List Nat) (T : TypeId) (w : World) (hs : s.size ≤ 65535) (h : Wr 117 w p l F) (hc : w.heap[pw]? = some (.cells #[.pointer (some ⟨p, 0, none⟩)] T (0, 0))) (hlen : l.length + 65600 ≤ 140737488355328) :
    Calls Tryd.prog 29 #[.string s, .pointer (some ⟨pw, 0, none⟩)] w fun e w' => ∃ F', e = .returned (.tuple #[]) ∧ Wr 117 w' p (l ++ textB s) F' ∧ Chg F w w' ∧ Fresh F F' w := by
  have kc := fun w => Lib.run_convert_string_bytes (P := Tryd.prog) w 9 22 5 s Tryd.underlying9 Tryd.underlying22 Tryd.underlying5
  have hb1 := bytesW_below w 5 s
  have hs2 := bytesW_slC w 5 s (by omega) (grownCap w s.size 0 5)
  have hw2 := h.keep (Chg.of_below hb1 []) (fun k hk hm => by cases hm)
  have hlt : ∀ k ∈ F, k < w.heap.size := h.lt
  have d0 : w.cell? ⟨pw, 0, none⟩ = some (.pointer (some ⟨p, 0, none⟩)) := cell_of_block (j := 0) hc rfl
  have hrd : RdB (Lib.bytesWorld w 5 s) (some ⟨w.heap.size, 0, none⟩) s.size s.data.toList := RdC.toB hs2.rd
  have HRD := hid hrd; have HW2 := hid hw2; have HB1 := hid hb1; have HLT := hid hlt
  have HTB : Hid (textB s = be 2 s.size ++ s.data.toList) := by show _ = _; unfold textB shortB; simp
  have KC := hid (kc w)
  clear kc hb1 hs2 hw2 hlt hrd h hc
  have kc := KC.out
  generalize hz : w.heap.size = z at *
  go_enter Tryd.func29, Tryd.ntmps29
  go_wp2_with fail
  refine (oShort_any p l F (some ⟨z, 0, none⟩) s.size _ s.data.toList _ HW2.out HRD.out (by simp) (fun w1 h1 => h1.rdB HRD.out (fun b off sp hb hm => by simp at hb; have := HLT.out _ hm; omega)) hs hlen).mono ?_
  rintro e w' ⟨F', rfl, h1, h2, h3⟩
  have H1 := hid h1; have H2 := hid h2; have H3 := hid h3
  clear h1 h2 h3
  dsimp only
  go_wp2_with fail
  go_end0
  refine ⟨F', rfl, by rw [HTB.out, ← List.append_assoc]; exact H1.out, (Chg.of_below (by rw [hz]; exact HB1.out) F).trans H2.out (fun q hq => .inl hq), fun q hq => ?_⟩
  rcases H3.out q hq with h | h
  · exact .inl h
  · exact .inr (by have := HB1.out.size; omega)
/-- Laying: the object in its block b, the variable of the writer in pw, the writer in p: l is laid, at most n bytes. -/
structure LaySt (OT PT WT : TypeId) (O : ObjD) (s : ObjV) (w W : World) (b pw p : Nat) (l : List UInt8) (n : Nat) : Prop where
  box : W.heap[b]? = some (.cells (objCells O s) OT (0, 0))
  var : W.heap[pw]? = some (.cells #[.pointer (some ⟨p, 0, none⟩)] PT (0, 0))
  wr : ∃ F, Wr WT W p l F ∧ ∀ k ∈ F, b < k ∧ k ≠ pw
  m : ObjM W O s
  foot : ∀ k ∈ s.foot, k < b
  bel : Below b w W
  len : l.length ≤ n
section
variable {OT PT WT : TypeId} {O : ObjD} {s : ObjV} {w W W' : World} {b pw p n : Nat} {l l' : List UInt8} {F F' : List Nat}
theorem LaySt.write (h : LaySt OT PT WT O s w W b pw p l n) (hF : ∀ k ∈ F, b < k ∧ k ≠ pw) (hw : Wr WT W' p l' F') (hc : Chg F W W') (hf : Fresh F F' W) (m : Nat) (hl : l'.length ≤ m) : LaySt OT PT WT O s w W' b pw p l' m :=
  ⟨(hc.block b (block_lt h.box) (fun hm => by have := (hF b hm).1; omega)).trans h.box, (hc.block pw (block_lt h.var) (fun hm => (hF pw hm).2 rfl)).trans h.var,
    ⟨F', hw, fun k hk => by
      rcases hf k hk with h' | h'
      · exact hF k h'
      · have h1 := block_lt h.box; have h2 := block_lt h.var; exact ⟨by omega, by omega⟩⟩,
    h.m.keep hc (fun k hk hm => by have h1 := h.foot k hk; have h2 := (hF k hm).1; omega), h.foot, h.bel.trans (hc.below (fun k hk => by have := (hF k hk).1; omega) (by have := block_lt h.box; omega)), hl⟩
theorem LaySt.below (h : LaySt OT PT WT O s w W b pw p l n) (hb : Below W.heap.size W W') : LaySt OT PT WT O s w W' b pw p l n := by
  obtain ⟨F, h1, h2⟩ := h.wr
  exact ⟨(hb.block _ (block_lt h.box)).trans h.box, (hb.block _ (block_lt h.var)).trans h.var, ⟨F, h1.keep (Chg.of_below hb []) (fun _ _ hm => by cases hm), h2⟩, h.m.below hb, h.foot, h.bel.trans (hb.mono (Nat.le_of_lt (block_lt h.box))), h.len⟩
end
theorem textB_len {s : ByteArray} (h : s.size ≤ 120) : (textB s).length ≤ 122 := by
  unfold textB shortB
  rw [List.length_append, be_len]
  simp; omega
end Go.Proofs.YtdlkobmlnpijgaaDoor
