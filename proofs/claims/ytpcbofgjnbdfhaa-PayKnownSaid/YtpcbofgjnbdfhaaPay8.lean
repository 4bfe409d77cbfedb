/- PayKnown: the walk. -/
import Derived.Test.YtpcbofgjnbdfhaaPay7
namespace Go.Proofs.Ytpcbofgjnbdfhaa
open Go.RowKit
set_option linter.unusedVariables false
set_option linter.unusedSimpArgs false
set_option maxRecDepth 100000
set_option maxHeartbeats 1600000
theorem payKnown_walk (w : World) : Calls Try.prog 6 #[] w fun e w' => e = .returned (.bool true) ∧ Below w.heap.size w w' := by
  obtain ⟨i, hi, hz0, hz1, hz2⟩ := info_parts iInfo
  go_enter Try.func6, Try.ntmps6
  have B := hid (Below.refl w.heap.size w)
  go_wp2_with fail
  refine (parse_any ({ typ := 7 } : ItV) {} [] _ (ItV.ok.zero _ _ _ _) (SlR.nil _ 4)).mono ?_
  intro e w1 hres
  have hp : parseV [] (({ typ := 7 } : ItV)).it = .error 4 := by rw [it_flat 0 7 0 [] {}]; kernel_rfl
  unfold Parsed at hres
  rw [hp] at hres
  obtain ⟨rfl, hb⟩ := hres
  have Bw1 := hid (grow_on B.out hb)
  clear B
  have B := Bw1; clear Bw1
  clear hp hb
  go_wp2_with fail
  refine (payOf_any 1 {} [] _ (SlR.nil _ 5) (by simp)).mono ?_
  rintro e w2 ⟨v2, rfl, hi_, ho, -, hb⟩
  have Bw2 := hid (grow_on B.out hb)
  clear B
  have B := Bw2; clear Bw2
  have O2 := hid ho; have I2 := hid hi_
  clear hi_ ho hb
  go_wp2_with fail
  refine (fields_any _).mono ?_
  rintro e w3 ⟨sf3, rfl, hsf, -, hb⟩
  have Bw3 := hid (grow_on B.out hb)
  have O2x := hid (O2.out.below hb)
  clear B O2
  have B := Bw3; clear Bw3
  have O2 := O2x; clear O2x
  have S3 := hid hsf
  clear hb hsf
  go_wp2_with fail
  refine (parse_any v2 sf3 fieldsL _ O2.out S3.out).mono ?_
  intro e w4 hres
  have hp : parseV fieldsL (v2).it = .error 6 := by rw [I2.out]; kernel_rfl
  unfold Parsed at hres
  rw [hp] at hres
  obtain ⟨rfl, hb⟩ := hres
  have Bw4 := hid (grow_on B.out hb)
  have O2x := hid (O2.out.below hb)
  have S3x := hid (S3.out.below hb)
  clear B O2 S3
  have B := Bw4; clear Bw4
  have O2 := O2x; clear O2x
  have S3 := S3x; clear S3x
  clear hp hb
  clear O2 I2
  clear S3
  go_wp2_with fail
  refine (payNumber_any 4325524 5 1 _).mono ?_
  rintro e w5 ⟨rfl, hb⟩
  have Bw5 := hid (grow_on B.out hb)
  clear B
  have B := Bw5; clear Bw5
  have O5 : Hid (ItV.ok w5 { tag := 4325524, typ := 5, int := 1 }) := ItV.ok.zero _ _ _ _
  generalize hv5 : ({ tag := 4325524, typ := 5, int := 1 } : ItV) = v5 at *
  have I5 : Hid (v5.it = { tag := 4325524, typ := 5, int := 1 }) := by show _ = _; rw [← hv5]; exact it_flat _ _ _ _ _
  clear hv5 hb
  go_wp2_with (refine wpList_build_items rfl 29 33 1 _ rfl [v5] rfl (by decide) (by decide) (by kernel_rfl) (v5.arr) i Try.underlying29 hi hz0 hz1 (by kernel_rfl) ?_)
  have hs := SlR.built (w := w5) (T := 33) (C := v5.arr) (vs := [v5]) (by simp [itmCells, ItV.cells]) (n := 1) rfl (by decide)
  have hall : ∀ x ∈ [v5], x.ok (w5.alloc (.cells (v5.arr) 33)) := fun x hx => by
    simp only [List.mem_cons, List.not_mem_nil, or_false] at hx
    rcases hx with rfl <;> exact ItV.ok.below (by first | exact O5.out) ((Below.refl _ _).alloc (Nat.le_refl _) _)
  refine (payOf_any 1 ⟨some ⟨w5.heap.size, 0, none⟩, 1, 1⟩ [v5] _ hs hall).mono ?_
  clear hs hall
  rintro e w6 ⟨v6, rfl, hi_, ho, -, hb⟩
  have Bw6 := hid (grow_on B.out (((Below.refl _ w5).alloc (Nat.le_refl _) _).trans (hb.mono (by simp))))
  have O5x := hid (O5.out.below (((Below.refl _ w5).alloc (Nat.le_refl _) _).trans (hb.mono (by simp))))
  clear B O5
  have B := Bw6; clear Bw6
  have O5 := O5x; clear O5x
  have O6 := hid ho; have I6 := hid hi_
  clear hi_ ho hb
  go_wp2_with fail
  refine (fields_any _).mono ?_
  rintro e w7 ⟨sf7, rfl, hsf, -, hb⟩
  have Bw7 := hid (grow_on B.out hb)
  have O5x := hid (O5.out.below hb)
  have O6x := hid (O6.out.below hb)
  clear B O5 O6
  have B := Bw7; clear Bw7
  have O5 := O5x; clear O5x
  have O6 := O6x; clear O6x
  have S7 := hid hsf
  clear hb hsf
  go_wp2_with fail
  refine (parse_any v6 sf7 fieldsL _ O6.out S7.out).mono ?_
  intro e w8 hres
  have hp : parseV fieldsL (v6).it = .error 7 := by rw [I6.out, List.map_cons, List.map_nil, I5.out]; kernel_rfl
  unfold Parsed at hres
  rw [hp] at hres
  obtain ⟨rfl, hb⟩ := hres
  have Bw8 := hid (grow_on B.out hb)
  have O5x := hid (O5.out.below hb)
  have O6x := hid (O6.out.below hb)
  have S7x := hid (S7.out.below hb)
  clear B O5 O6 S7
  have B := Bw8; clear Bw8
  have O5 := O5x; clear O5x
  have O6 := O6x; clear O6x
  have S7 := S7x; clear S7x
  clear hp hb
  clear O6 I6
  clear O5 I5
  clear S7
  go_wp2_with fail
  refine (payText_any 4325524 ⟨#[97]⟩ _ (by decide)).mono ?_
  rintro e w9 ⟨v9, rfl, hi, ho, -, hb⟩
  have Bw9 := hid (grow_on B.out hb)
  clear B
  have B := Bw9; clear Bw9
  have O9 := hid ho; have I9 := hid hi
  clear hi ho hb
  go_wp2_with fail
  refine (payText_any 4325524 ⟨#[97]⟩ _ (by decide)).mono ?_
  rintro e w10 ⟨v10, rfl, hi, ho, -, hb⟩
  have Bw10 := hid (grow_on B.out hb)
  have O9x := hid (O9.out.below hb)
  clear B O9
  have B := Bw10; clear Bw10
  have O9 := O9x; clear O9x
  have O10 := hid ho; have I10 := hid hi
  clear hi ho hb
  go_wp2_with (refine wpList_build_items rfl 29 33 2 _ rfl [v9, v10] rfl (by decide) (by decide) (by kernel_rfl) (v9.arr ++ v10.arr) i Try.underlying29 hi hz0 hz1 (by kernel_rfl) ?_)
  have hs := SlR.built (w := w10) (T := 33) (C := v9.arr ++ v10.arr) (vs := [v9, v10]) (by simp [itmCells, ItV.cells]) (n := 2) rfl (by decide)
  have hall : ∀ x ∈ [v9, v10], x.ok (w10.alloc (.cells (v9.arr ++ v10.arr) 33)) := fun x hx => by
    simp only [List.mem_cons, List.not_mem_nil, or_false] at hx
    rcases hx with rfl | rfl <;> exact ItV.ok.below (by first | exact O9.out | exact O10.out) ((Below.refl _ _).alloc (Nat.le_refl _) _)
  refine (payOf_any 1 ⟨some ⟨w10.heap.size, 0, none⟩, 2, 2⟩ [v9, v10] _ hs hall).mono ?_
  clear hs hall
  rintro e w11 ⟨v11, rfl, hi_, ho, -, hb⟩
  have Bw11 := hid (grow_on B.out (((Below.refl _ w10).alloc (Nat.le_refl _) _).trans (hb.mono (by simp))))
  have O9x := hid (O9.out.below (((Below.refl _ w10).alloc (Nat.le_refl _) _).trans (hb.mono (by simp))))
  have O10x := hid (O10.out.below (((Below.refl _ w10).alloc (Nat.le_refl _) _).trans (hb.mono (by simp))))
  clear B O9 O10
  have B := Bw11; clear Bw11
  have O9 := O9x; clear O9x
  have O10 := O10x; clear O10x
  have O11 := hid ho; have I11 := hid hi_
  clear hi_ ho hb
  go_wp2_with fail
  refine (fields_any _).mono ?_
  rintro e w12 ⟨sf12, rfl, hsf, -, hb⟩
  have Bw12 := hid (grow_on B.out hb)
  have O9x := hid (O9.out.below hb)
  have O10x := hid (O10.out.below hb)
  have O11x := hid (O11.out.below hb)
  clear B O9 O10 O11
  have B := Bw12; clear Bw12
  have O9 := O9x; clear O9x
  have O10 := O10x; clear O10x
  have O11 := O11x; clear O11x
  have S12 := hid hsf
  clear hb hsf
  go_wp2_with fail
  refine (parse_any v11 sf12 fieldsL _ O11.out S12.out).mono ?_
  intro e w13 hres
  have hp : parseV fieldsL (v11).it = .error 4 := by rw [I11.out, List.map_cons, List.map_cons, List.map_nil, I9.out, I10.out]; kernel_rfl
  unfold Parsed at hres
  rw [hp] at hres
  obtain ⟨rfl, hb⟩ := hres
  have Bw13 := hid (grow_on B.out hb)
  have O9x := hid (O9.out.below hb)
  have O10x := hid (O10.out.below hb)
  have O11x := hid (O11.out.below hb)
  have S12x := hid (S12.out.below hb)
  clear B O9 O10 O11 S12
  have B := Bw13; clear Bw13
  have O9 := O9x; clear O9x
  have O10 := O10x; clear O10x
  have O11 := O11x; clear O11x
  have S12 := S12x; clear S12x
  clear hp hb
  clear O11 I11
  clear O9 I9
  clear O10 I10
  clear S12
  go_wp2_with fail
  refine (payText_any 5 ⟨#[97]⟩ _ (by decide)).mono ?_
  rintro e w14 ⟨v14, rfl, hi, ho, -, hb⟩
  have Bw14 := hid (grow_on B.out hb)
  clear B
  have B := Bw14; clear Bw14
  have O14 := hid ho; have I14 := hid hi
  clear hi ho hb
  go_wp2_with (refine wpList_build_items rfl 29 33 3 _ rfl [itZ, v14, itZ] rfl (by decide) (by decide) (by kernel_rfl) (itZ.arr ++ v14.arr ++ itZ.arr) i Try.underlying29 hi hz0 hz1 (by kernel_rfl) ?_)
  have hs := SlR.built (w := w14) (T := 33) (C := itZ.arr ++ v14.arr ++ itZ.arr) (vs := [itZ, v14, itZ]) (by simp [itmCells, ItV.cells]) (n := 3) rfl (by decide)
  have hall : ∀ x ∈ [itZ, v14, itZ], x.ok (w14.alloc (.cells (itZ.arr ++ v14.arr ++ itZ.arr) 33)) := fun x hx => by
    simp only [List.mem_cons, List.not_mem_nil, or_false] at hx
    rcases hx with rfl | rfl | rfl <;> exact ItV.ok.below (by first | exact O14.out | exact ItV.ok.zero _ _ _ _) ((Below.refl _ _).alloc (Nat.le_refl _) _)
  refine (paySome_any ⟨some ⟨w14.heap.size, 0, none⟩, 3, 3⟩ [itZ, v14, itZ] _ hs hall).mono ?_
  clear hs hall
  rintro e w15 ⟨so, lo, rfl, hlo, how, hb⟩
  have hlo2 : lo.map ItV.it = [v14.it] := by
    rw [hlo]
    have h1 : (itZ.tag != 0) = false := by decide
    have h2 : (v14.tag != 0) = true := by rw [← it_tag, I14.out]; decide
    simp [List.filter_cons, h1, h2]
  have hson : so.n = 1 := by rw [← how.len, ← List.length_map (f := ItV.it), hlo2]; rfl
  obtain ⟨x, g, hlx, hix, hax, hrx, hxo, -⟩ := how.one hlo2 (by omega)
  have hxt : x.tag = 5 := by rw [← it_tag, hix, I14.out]
  obtain ⟨sa, sn, sc⟩ := so
  simp only at hson hax
  subst hson; subst hax
  have hxc := range_cell hrx 0 (v := .int .i64 x.tag) rfl
  rw [Nat.zero_add, hxt] at hxc
  have Bw15 := hid (grow_on B.out (((Below.refl _ w14).alloc (Nat.le_refl _) _).trans (hb.mono (by simp))))
  have O14x := hid (O14.out.below (((Below.refl _ w14).alloc (Nat.le_refl _) _).trans (hb.mono (by simp))))
  clear B O14
  have B := Bw15; clear Bw15
  have O14 := O14x; clear O14x
  have HXC := hid hxc
  clear hxc hb hlo hlo2 how hlx hix hrx hxo hxt O14 I14
  go_wp2_with fail
  refine (known15_any _).mono ?_
  rintro e wz ⟨rfl, hb⟩
  have hxc := cell_later hb HXC.out
  have BZ := hid (grow_on B.out hb)
  clear B HXC hb
  go_wp2_with fail
  go_ret
  exact ⟨rfl, BZ.out⟩
end Go.Proofs.Ytpcbofgjnbdfhaa
