/- law15: fields, known. -/
import Derived.Test.YtpcbofgjnbdfhaaPay12
namespace Go.Proofs.Ytpcbofgjnbdfhaa
open Go.RowKit
set_option linter.unusedVariables false
set_option linter.unusedSimpArgs false
set_option maxRecDepth 100000
set_option maxHeartbeats 400000
/-- A slice of items built in one go. -/
theorem SlR.built {w : World} {T : TypeId} {C : Array Value} {vs : List ItV} (hC : C.toList = itmCells vs) {n : Nat} (hn : vs.length = n) (hs : n ≤ 1099511627776) : SlR (w.alloc (.cells C T)) ⟨some ⟨w.heap.size, 0, none⟩, n, n⟩ 5 (itmCells vs) :=
  ⟨RdC.new _ _ _ _ _ hC _ (by rw [itm_len, hn]) _ rfl, by simp, hs, by simp [Sl.blk]⟩
theorem wpList_build_items {P : Program} {ops : Array Oper} {rest : List Oper} {o : Oper} {a : Act} {w : World} {Q : Exit → Act → World → Prop} (hg : o.guard = none) (T E : TypeId) (n : Nat) (ps : Array (Nat × Operand)) (ho : o.op = .buildSlice T n ps) (vs : List ItV) (hn : vs.length = n) (h0 : 0 < n) (h9 : n ≤ 100)
    (hx : (ps.map fun (i, x) => (i, a.eval x)).toList = (vs.zipIdx 0).map fun x => (x.2, Value.agg x.1.arr)) (C : Array Value)
    (i : TypeInfo) (hu : P.underlying T = some (.slice E)) (hi : P.info? E = some i) (hz : i.zero = some (.agg itZ.arr)) (hs : i.size = 5)
    (hf : Instr.fill (fun i => some (i * 5, 5)) ((Array.range (n * 5)).map (itZ.arr[· % itZ.arr.size]!)) ((vs.zipIdx 0).map fun x => (x.2, Value.agg x.1.arr)) = some C)
    (h : wpList P ops Q rest (a.put o.dst (.slice (some ⟨w.heap.size, 0, none⟩) n n)) (w.alloc (.cells C E))) : wpList P ops Q (o :: rest) a w := by
  refine wpList_buildSlice hg T E n _ ho C i _ hu hi hz (by rw [hs]; omega) (by rw [hs]; omega) ?_ h
  rw [hs, hx]
  exact hf
/-- A row of rows, at one place. -/
theorem Rows2.at {T1 T : TypeId} {w : World} {base low : Nat} {s : Sl} {sls : List Sl} {rv : List (List ItV)} {rows : List (List Itm)} (h : Rows2 T1 T w base low s sls rv) (hr : rv.map (fun l => l.map ItV.it) = rows) {k : Nat} {r : List Itm} (hk : rows[k]? = some r) :
    ∃ (sl : Sl) (l : List ItV) (g : Nat), sls[k]? = some sl ∧ rv[k]? = some l ∧ l.map ItV.it = r ∧ OwnIt T w base low sl l ∧ sl.n = r.length ∧ s.a = some ⟨g, 0, none⟩ ∧ w.cell? ⟨g, k, none⟩ = some (.slice sl.a sl.n sl.c) ∧ k < s.n := by
  subst hr
  rw [List.getElem?_map] at hk
  cases hl : rv[k]? with
  | none => rw [hl] at hk; cases hk
  | some l =>
    rw [hl] at hk
    simp only [Option.map_some, Option.some.injEq] at hk
    have hlt := (List.getElem?_eq_some_iff.1 hl).1
    have hlen := h.len
    have hsl : sls[k]? = some (sls[k]'(by omega)) := List.getElem?_eq_getElem _
    have ho := h.each k _ l hsl hl
    have hkn : k < s.n := by have := h.slen; omega
    have hown := h.own
    obtain ⟨g, hg, _, _⟩ := (own_slice hown).2.2 (by omega)
    refine ⟨_, l, g, hsl, rfl, hk, ho, by rw [← ho.len, ← hk, List.length_map], hg, ?_, hkn⟩
    rw [hg] at hown
    rw [hown.cellAt k (by omega), List.getElem?_map, hsl]; rfl
theorem Rows2.rlen {T1 T : TypeId} {w : World} {base low : Nat} {s : Sl} {sls : List Sl} {rv : List (List ItV)} {rows : List (List Itm)} (h : Rows2 T1 T w base low s sls rv) (hr : rv.map (fun l => l.map ItV.it) = rows) : s.n = rows.length := by
  have := h.slen; have := h.len; rw [← hr, List.length_map]; omega

/-- A row of one item. -/
theorem OwnIt.one {T : TypeId} {w : World} {base low : Nat} {sl : Sl} {l : List ItV} {i : Itm} (h : OwnIt T w base low sl l) (hl : l.map ItV.it = [i]) (hn : sl.n ≤ 1099511627776) : ∃ (x : ItV) (g : Nat), l = [x] ∧ x.it = i ∧ sl.a = some ⟨g, 0, none⟩ ∧ w.rangeAt g 0 x.cells ∧ x.ok w ∧ sl.n = 1 := by
  match l, hl with
  | [x], hl =>
    have h1 : sl.n = 1 := by have := h.len; simpa using this.symm
    obtain ⟨g, hg, _, _⟩ := (own_slice h.own).2.2 (by omega)
    obtain ⟨b, off, y, ha, hy, hr⟩ := (h.sl hn).row (k := 0) (by omega)
    rw [hg] at ha
    simp only [Option.some.injEq, Addr.mk.injEq] at ha
    obtain ⟨rfl, rfl, _⟩ := ha
    simp at hy
    subst hy
    exact ⟨x, g, rfl, by simpa using hl, hg, by simpa using hr, h.ok x (by simp), h1⟩
def fieldsL : List Fld := [{ tag := 4325524, typ := 7, need := true }, { tag := 4325570, typ := 8 }]
def FieldsMade (w : World) (e : Ending) (w' : World) : Prop := ∃ s : Sl, e = .returned (.slice s.a s.n s.c) ∧ SlR w' s 4 (fldCells fieldsL) ∧ (∀ k ∈ s.blk, w.heap.size ≤ k) ∧ Below w.heap.size w w'
def fieldsC : Array Value := #[.int .i64 4325524, .int .i64 7, .bool true, .bool false, .int .i64 4325570, .int .i64 8, .bool false, .bool false]
theorem fieldsC_eq : fieldsC.toList = fldCells fieldsL := by kernel_rfl
theorem fieldsL_len : (fldCells fieldsL).length = 8 := by kernel_rfl
theorem fields_row (w : World) : SlR (w.alloc (.cells fieldsC 28)) ⟨some ⟨w.heap.size, 0, none⟩, 2, 2⟩ 4 (fldCells fieldsL) := by
  have h1 := fieldsC_eq
  have h2 := fieldsL_len
  generalize fldCells fieldsL = L at *
  generalize fieldsC = C at *
  exact ⟨RdC.new w C _ _ _ h1 8 h2 _ rfl, by simp, by simp, by simp [Sl.blk]⟩
theorem fields_any (w : World) : Calls Try.prog 22 #[] w (FieldsMade w) := by
  have HR := hid (fields_row w)
  go_enter Try.func22, Try.ntmps22
  go_wp2_with fail
  go_ret
  exact ⟨⟨some ⟨w.heap.size, 0, none⟩, 2, 2⟩, rfl, HR.out, by simp [Sl.blk], (Below.refl _ _).alloc (Nat.le_refl _) _⟩
theorem known15_any (w : World) : Calls Try.prog 11 #[] w fun e w' => e = .returned (.bool true) ∧ Below w.heap.size w w' := by
  obtain ⟨i, hi, hz0, hz1, hz2⟩ := info_parts iInfo
  have kc := fun (w : World) (C : Array Value) (n c : Nat) => Lib.run_convert_bytes_const (P := Try.prog) w 31 5 C n c Try.underlying31 Try.underlying5
  go_enter Try.func11, Try.ntmps11
  go_wp2_with fail
  refine (payBytes_any 4325570 {} [] _ (SlC.nil _)).mono ?_
  rintro e w1 ⟨s1, rfl, hn1, ho1, hb1⟩
  have B := hid hb1
  have O1 : Hid (ItV.ok w1 { tag := 4325570, typ := 8, data := [], ds := s1 }) := ok_flat (SlC.of_own ho1 (by rw [hn1]; simp))
  generalize hv1 : ({ tag := 4325570, typ := 8, data := [], ds := s1 } : ItV) = v1 at *
  have I1 : Hid (v1.it = { tag := 4325570, typ := 8 }) := by show _ = _; rw [← hv1]; exact it_flat _ _ _ _ _
  clear hv1 hn1 ho1 hb1
  go_wp2_with fail
  refine (payText_any 4325524 ⟨#[97]⟩ _ (by decide)).mono ?_
  rintro e w2 ⟨v2, rfl, hi2, ho2, -, hb2⟩
  have B2 := hid (grow_on B.out hb2)
  have O1' := hid (O1.out.below hb2); have O2 := hid ho2; have I2 := hid hi2
  clear B O1 hi2 ho2 hb2
  have B := B2; have O1 := O1'
  clear B2 O1'
  go_wp2_with (refine wpList_build_items rfl 29 33 2 _ rfl [v1, v2] rfl (by decide) (by decide) (by kernel_rfl) (v1.arr ++ v2.arr) i Try.underlying29 hi hz0 hz1 (by kernel_rfl) ?_)
  have hs := SlR.built (w := w2) (T := 33) (C := v1.arr ++ v2.arr) (vs := [v1, v2]) (by simp [itmCells, ItV.cells]) (n := 2) rfl (by decide)
  have hall : ∀ x ∈ [v1, v2], x.ok (w2.alloc (.cells (v1.arr ++ v2.arr) 33)) := fun x hx => by
    simp only [List.mem_cons, List.not_mem_nil, or_false] at hx
    rcases hx with rfl | rfl <;> exact ItV.ok.below (by first | exact O1.out | exact O2.out) ((Below.refl _ _).alloc (Nat.le_refl _) _)
  refine (payOf_any 4325497 ⟨some ⟨w2.heap.size, 0, none⟩, 2, 2⟩ [v1, v2] _ hs hall).mono ?_
  clear hs hall
  rintro e w3 ⟨v3, rfl, hi, ho, -, hb⟩
  have B3 := hid (grow_on B.out (((Below.refl _ w2).alloc (Nat.le_refl _) _).trans (hb.mono (by simp))))
  have I3 := hid hi; have O3 := hid ho
  clear hi ho hb B
  have B := B3
  clear B3
  go_wp2_with fail
  refine (fields_any _).mono ?_
  rintro e w4 ⟨sf, rfl, hsf, -, hb⟩
  have B4 := hid (grow_on B.out hb); have O3' := hid (O3.out.below hb); have HSF := hid hsf
  clear B hb hsf O3
  have B := B4
  clear B4
  go_wp2_with fail
  refine (parse_any v3 sf fieldsL _ O3'.out HSF.out).mono ?_
  intro e w5 hres
  have hp : parseV fieldsL v3.it = .error 4 := by rw [I3.out, List.map_cons, List.map_cons, List.map_nil, I1.out, I2.out]; kernel_rfl
  unfold Parsed at hres
  rw [hp] at hres
  obtain ⟨rfl, hb⟩ := hres
  have B5 := hid (grow_on B.out hb)
  clear B hb hp O1 O2 I1 I2 I3 O3' HSF
  have B := B5
  clear B5
  go_wp2_with fail
  refine (payText_any 4325524 ⟨#[97]⟩ _ (by decide)).mono ?_
  rintro e w6 ⟨v6, rfl, hi, ho, -, hb⟩
  have B6 := hid (grow_on B.out hb); have O6 := hid ho; have I6 := hid hi
  clear B hi ho hb
  have B := B6
  clear B6
  go_wp2_with fail
  have hsb : SlC (w6.alloc (.cells #[.int .u8 98] 5 (1, 2))) ⟨some ⟨w6.heap.size, 0, none⟩, 1, 1⟩ ([98].map B8) := ⟨RdC.new _ _ _ _ _ rfl 1 rfl _ rfl, by simp, by simp, by simp [Sl.blk]⟩
  refine (payBytes_any 4325570 ⟨some ⟨w6.heap.size, 0, none⟩, 1, 1⟩ [98] _ hsb).mono ?_
  rintro e w7 ⟨s7, rfl, hn7, ho7, hb⟩
  have hb7 : Below w6.heap.size w6 w7 := ((Below.refl _ w6).alloc (Nat.le_refl _) _).trans (hb.mono (by simp))
  have B7 := hid (grow_on B.out hb7)
  have O6' := hid (O6.out.below hb7)
  have O7 : Hid (ItV.ok w7 { tag := 4325570, typ := 8, data := [98], ds := s7 }) := ok_flat (SlC.of_own ho7 (by rw [hn7]; simp))
  generalize hv7 : ({ tag := 4325570, typ := 8, data := [98], ds := s7 } : ItV) = v7 at *
  have I7 : Hid (v7.it = { tag := 4325570, typ := 8, data := [98] }) := by show _ = _; rw [← hv7]; exact it_flat _ _ _ _ _
  clear hv7 hn7 ho7 hb hb7 hsb B O6
  have B := B7; have O6 := O6'
  clear B7 O6'
  go_wp2_with (refine wpList_build_items rfl 29 33 2 _ rfl [v6, v7] rfl (by decide) (by decide) (by kernel_rfl) (v6.arr ++ v7.arr) i Try.underlying29 hi hz0 hz1 (by kernel_rfl) ?_)
  have hs := SlR.built (w := w7) (T := 33) (C := v6.arr ++ v7.arr) (vs := [v6, v7]) (by simp [itmCells, ItV.cells]) (n := 2) rfl (by decide)
  have hall : ∀ x ∈ [v6, v7], x.ok (w7.alloc (.cells (v6.arr ++ v7.arr) 33)) := fun x hx => by
    simp only [List.mem_cons, List.not_mem_nil, or_false] at hx
    rcases hx with rfl | rfl <;> exact ItV.ok.below (by first | exact O6.out | exact O7.out) ((Below.refl _ _).alloc (Nat.le_refl _) _)
  refine (payOf_any 4325497 ⟨some ⟨w7.heap.size, 0, none⟩, 2, 2⟩ [v6, v7] _ hs hall).mono ?_
  clear hs hall
  rintro e w8 ⟨v8, rfl, hi, ho, -, hb⟩
  have B8 := hid (grow_on B.out (((Below.refl _ w7).alloc (Nat.le_refl _) _).trans (hb.mono (by simp))))
  have I8 := hid hi; have O8 := hid ho
  clear hi ho hb B
  have B := B8
  clear B8
  go_wp2_with fail
  refine (fields_any _).mono ?_
  rintro e w9 ⟨sg, rfl, hsf, -, hb⟩
  have B9 := hid (grow_on B.out hb); have O8' := hid (O8.out.below hb); have HSF := hid hsf
  clear B hb hsf O8
  have B := B9
  clear B9
  go_wp2_with fail
  refine (parse_any v8 sg fieldsL _ O8'.out HSF.out).mono ?_
  intro e w5 hres
  have hp : parseV fieldsL v8.it = .ok [[{ tag := 4325524, typ := 7, data := [97] }], [{ tag := 4325570, typ := 8, data := [98] }]] := by rw [I8.out, List.map_cons, List.map_cons, List.map_nil, I6.out, I7.out]; kernel_rfl
  unfold Parsed at hres
  rw [hp] at hres
  obtain ⟨so, sls, rv, rfl, hr2, hrv, hsn, hb⟩ := hres
  have B5 := hid (grow_on B.out hb)
  obtain ⟨sl0, l0, g, hs0, hl0, hi0, ho0, hn0, hg, hc0, hk0⟩ := hr2.at hrv (k := 0) (r := [{ tag := 4325524, typ := 7, data := [97] }]) rfl
  obtain ⟨sl1, l1, g1, hs1, hl1, hi1, ho1, hn1, hg1, hc1, hk1⟩ := hr2.at hrv (k := 1) (r := [{ tag := 4325570, typ := 8, data := [98] }]) rfl
  rw [hg] at hg1
  simp only [Option.some.injEq, Addr.mk.injEq, and_true] at hg1
  subst hg1
  obtain ⟨x, gx, hlx, hix, hax, hrx, hxo, -⟩ := ho0.one hi0 (hsn sl0 (List.mem_of_getElem? hs0))
  have hxd : x.data = [97] := by rw [← it_data, hix]
  have hn1' : sl1.n = 1 := hn1
  have hn0' : sl0.n = 1 := hn0
  have hlen2 : so.n = 2 := hr2.rlen hrv
  obtain ⟨sa, sn, sc⟩ := so
  obtain ⟨sa0, sn0, sc0⟩ := sl0
  obtain ⟨sa1, sn1, sc1⟩ := sl1
  simp only at hg hlen2 hax hn1' hn0' hc0 hc1
  subst hg; subst hax; subst hn1'; subst hn0'
  subst hlen2
  have hxc := range_cell hrx 3 (v := .slice x.ds.a x.ds.n x.ds.c) rfl
  rw [Nat.zero_add] at hxc
  have rx := run_bytes_str (P := Try.prog) (ItV.ok_iff.1 hxo).1.rdB x.ds.c 31 9 5 Try.underlying31 Try.underlying5 Try.underlying9
  rw [hxd] at rx
  clear B hb hp hr2 hrv hsn hs0 hl0 hi0 ho0 hn0 hs1 hl1 hi1 ho1 hn1 hlx hix hrx hxo hxd O6 O7 I6 I7 I8 O8' HSF hk0 hk1
  go_wp2_with fail
  go_ret
  exact ⟨rfl, B5.out⟩
end Go.Proofs.Ytpcbofgjnbdfhaa
