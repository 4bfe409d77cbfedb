/- pay.Parse: its walk. -/
import Derived.Test.YteenglgnakenmaaDoorPayA
import Derived.Test.YteenglgnakenmaaDoorRegionB
namespace Go.Proofs.YteenglgnakenmaaDoor
open Go.RowKit
set_option linter.unusedVariables false
set_option linter.unusedSimpArgs false
set_option maxRecDepth 100000
set_option maxHeartbeats 3200000
theorem it_tag (v : ItV) : v.it.tag = v.tag := by rw [ItV.it_eq]
theorem it_typ (v : ItV) : v.it.typ = v.typ := by rw [ItV.it_eq]
theorem it_int (v : ItV) : v.it.int = v.int := by rw [ItV.it_eq]
theorem it_kids (v : ItV) : v.it.kids = v.kids.map ItV.it := by rw [ItV.it_eq]
theorem it_data (v : ItV) : v.it.data = v.data := by rw [ItV.it_eq]
theorem OwnIt.app2 {T : TypeId} {w w' : World} {base low : Nat} {s : Sl} {l : List ItV} (h : OwnIt T w base low s l) (y : ItV) (hy : y.ok w) (hap : ∀ k ∈ y.foot, s.v.ownBlock ≠ some k) (hlow : ∀ k ∈ y.foot, low ≤ k) {a : Option Addr} {n c : Nat}
    (ho : w'.ownsRow base T 5 (.slice a n c) n (itmCells (l ++ [y]))) (hc : Chg s.v.ownBlock.toList w w') (hf : (Value.slice a n c).ownBlock = s.v.ownBlock ∨ ∀ k, (Value.slice a n c).ownBlock = some k → w.heap.size ≤ k) : OwnIt T w' base low ⟨a, n, c⟩ (l ++ [y]) := by
  have hdis : ∀ x : ItV, (∀ k ∈ x.foot, s.v.ownBlock ≠ some k) → Disj x.foot s.v.ownBlock.toList := fun x hx k hk hm => by
    cases hv : s.v.ownBlock with
    | none => rw [hv] at hm; cases hm
    | some z => rw [hv] at hm; simp at hm; subst hm; exact hx k hk hv
  have key : ∀ x ∈ l ++ [y], x.ok w ∧ (∀ k ∈ x.foot, s.v.ownBlock ≠ some k) ∧ ∀ k ∈ x.foot, low ≤ k := by
    intro x hx
    rcases List.mem_append.1 hx with h' | h'
    · exact ⟨h.ok x h', h.apart x h', h.low x h'⟩
    · rw [List.mem_singleton.1 h']; exact ⟨hy, hap, hlow⟩
  refine ⟨ho, fun x hx => ItV.ok.keep hc (key x hx).1 (hdis x (key x hx).2.1), fun x hx k hk => ?_, fun x hx => (key x hx).2.2⟩
  rcases hf with h' | h'
  · rw [show Sl.v ⟨a, n, c⟩ = Value.slice a n c from rfl, h']; exact (key x hx).2.1 k hk
  · intro he
    have h1 := h' k he
    have h2 := (key x hx).1.lt k hk
    omega
theorem made_slices (n : Nat) : (madeCells (Value.slice none 0 0).cells (n * 1)).toList = List.replicate n (Value.slice none 0 0) := by
  rw [List.eq_replicate_iff]
  refine ⟨by simp [madeCells], fun b hb => ?_⟩
  simp [madeCells, Value.cells, Nat.mod_one] at hb
  exact hb.2.symm
def stZero (T : TypeId) : St Grow := ⟨fun v w => ∃ p, v = .slice (some ⟨p, 0, none⟩) 1 1 ∧ w.heap[p]? = some (.cells itZ.arr T (0, 0)), fun v w w' h hg => let ⟨p, e, h0⟩ := h; ⟨p, e, (hg.block _ (block_lt h0)).trans h0⟩⟩
/-- What Parse answers. -/
def Parsed (T1 T : TypeId) (r : Except Int (List (List Itm))) (w : World) (e : Ending) (w' : World) : Prop :=
  match r with
  | .error c => e = .returned (.tuple #[.slice none 0 0, .int .i64 c]) ∧ Below w.heap.size w w'
  | .ok rows => ∃ (so : Sl) (sls : List Sl) (rv : List (List ItV)), e = .returned (.tuple #[.slice so.a so.n so.c, .int .i64 0]) ∧ Rows2 T1 T w' w.heap.size w.heap.size so sls rv ∧ rv.map (fun l => l.map ItV.it) = rows ∧ (∀ sl ∈ sls, sl.n ≤ 1099511627776) ∧ Below w.heap.size w w'
theorem rInfo : (Tryd.prog.info? 28).map (fun i => (i.zero, i.size, i.bytes)) = some (some (.slice none 0 0), 1, 24) := by kernel_rfl
theorem fSize : (Tryd.prog.info? 64).map (·.size) = some 4 := by kernel_rfl
def fldZ : Fld := {}
theorem fZero : (Tryd.prog.info? 64).map (·.zero) = some (some (.agg fldZ.arr)) := by kernel_rfl
theorem farr_one (f : Fld) : f.arr.all (·.oneCell') = true := by simp [Fld.arr, Value.oneCell']
theorem parse_any (v : ItV) (s : Sl) (l : List Fld) (w : World) (hv : v.ok w) (hs : SlR w s 4 (fldCells l)) :
    Calls Tryd.prog 22 #[.agg v.arr, .slice s.a s.n s.c] w (Parsed 28 30 (parseV l v.it) w) := by
  obtain ⟨i, hi, hz0, hz1, hz2⟩ := info_parts iInfo
  obtain ⟨i1, hi1, hy0, hy1, hy2⟩ := info_parts rInfo
  have hsn := hs.sm
  have hkn := (ItV.ok_iff.1 hv).2.1.sm
  have HFL := hid hs.flen
  have HKL := hid (ItV.ok_iff.1 hv).2.1.klen
  have HV := hid hv; have HS := hid hs
  clear hv hs
  generalize hbe : w.heap.size = b
  have HBE := hid hbe; clear hbe
  go_enter Tryd.func22, Tryd.ntmps22
  go_upto_region 1 with (fail)
  go_simp
  have hbw : Below w.heap.size w (w.alloc (.cells v.arr 30)) := (Below.refl _ _).alloc (Nat.le_refl _) _
  have hb0 := block_new w (.cells v.arr 30)
  have hsz : (w.alloc (.cells v.arr 30)).heap.size = w.heap.size + 1 := by simp
  have HV0 := hid (HV.out.below hbw)
  have HS0 := hid (HS.out.below hbw)
  have HLT := hid HV.out.lt
  have HSL := hid HS.out.lt
  rw [HBE.out] at hbw hb0 hsz HLT HSL ⊢
  have HBW := hid hbw; have HB0 := hid hb0; have HSZ := hid hsz
  clear hbw hb0 hsz HV HS
  generalize w.alloc (.cells v.arr 30) = W at *
  have hc1 := cell_of_block (j := 1) HB0.out (ar1 v)
  have hc4 := cell_of_block (j := 4) HB0.out (ar4 v)
  obtain ⟨ka, hka⟩ : ∃ ka, v.ks.a = ka := ⟨_, rfl⟩
  rw [hka] at hc4
  have HKA := hid hka; clear hka
  obtain ⟨sa, hsa⟩ : ∃ sa, s.a = sa := ⟨_, rfl⟩
  rw [hsa]
  have HSA := hid hsa; clear hsa
  by_cases ht : v.typ = 1
  · rw [ht] at hc1
    have HT := hid ht; clear ht
    go_upto_region 5 with (at_make; go_must (refine wpList_make_full _ rfl _ _ 60 rfl b 28 i1 _ 1 Tryd.underlying60 hi1 hy0 hy1 .i64 .i64 _ _ s.n rfl rfl rfl rfl (by rw [hy2]; omega) (by unfold maxLen; omega) (by rw [HSZ.out]; omega) ?_); go_loud (intro w1 hown hg; have HOWN := hid hown; have HG := hid hg; clear hown hg))
    have hb1 : Below W.heap.size W w1 := (Below.refl _ _).grown HG.out (Nat.le_refl _) (fun k h => by cases h)
    have ho1 := HOWN.out
    rw [made_slices, HSZ.out] at ho1
    have HR0 : Hid (Rows2 28 30 w1 b b ⟨some ⟨b + 1, 0, none⟩, s.n, s.n⟩ (List.replicate s.n {}) (List.replicate s.n [])) := Rows2.start (by decide) ho1
    have HV1 := hid (HV0.out.below hb1); have HS1 := hid (HS0.out.below hb1)
    have HB1 := hid ((hb1.block _ (by rw [HSZ.out]; omega)).trans HB0.out)
    have HBW1 := hid (HBW.out.trans (hb1.mono (by rw [HSZ.out]; omega)))
    have hc4 := cell_of_block (j := 4) HB1.out (ar4 v)
    rw [HKA.out] at hc4
    have HPK : Hid (parseKids l (v.it.kids.take 0) = .ok (0, (List.replicate s.n ([] : List ItV)).map (fun l => l.map ItV.it))) := by
      show _ = _
      rw [List.take_zero, List.map_replicate, ← HFL.out]; rfl
    rw [HSZ.out]
    clear hb1 ho1 HOWN HG HV0 HS0 HB0 HBW hc1 HSZ
    go_wp2_with fail
    clear hc4
    go_loopw [7, 21] (fun u y wr => ∃ (k at_ : Nat) (sls : List Sl) (rows : List (List ItV)), k ≤ v.ks.n ∧ y = .int .i64 k ∧ u = .int .i64 at_ ∧ at_ ≤ 1099511627776 ∧ parseKids l (v.it.kids.take k) = .ok (at_, rows.map (fun l => l.map ItV.it)) ∧ (∀ sl ∈ sls, sl.n ≤ k) ∧ Rows2 28 30 wr b b ⟨some ⟨b + 1, 0, none⟩, s.n, s.n⟩ sls rows ∧ Below b w wr ∧ b + 2 ≤ wr.heap.size ∧ v.ok wr ∧ SlR wr s 4 (fldCells l)) (fun _ y _ => v.ks.n - (intOf y).toNat)
    case atStart => exact ⟨0, 0, _, _, Nat.zero_le _, rfl, rfl, by omega, HPK.out, fun sl h => by rw [List.eq_of_mem_replicate h]; exact Nat.le_refl _, HR0.out, HBW1.out, (HR0.out.own.lt (b + 1) rfl).2, HV1.out, HS1.out⟩
    case round =>
      clear HR0 HV1 HS1 HB1 HBW1 HPK
      obtain ⟨k, at_, sls, rows, hk, rfl, rfl, hat, hpk, hsk, hr, hb, hzz, hv, hs⟩ := hrel
      have HRW := hid hr; have B := hid hb; have HV := hid hv; have HS := hid hs; have HPK := hid hpk; have HSK := hid hsk
      have HZZ := hid hzz
      clear hr hb hv hs hpk hsk hzz
      by_cases hlt : k < v.ks.n
      · obtain ⟨bx, ox, x, hax, hx, hrow⟩ := (ItV.ok_iff.1 HV.out).2.1.row hlt
        rw [HKA.out] at hax
        subst hax
        have HX := hid ((ItV.ok_iff.1 HV.out).2.2 x (List.mem_of_getElem? hx))
        have HXK : Hid (v.it.kids[k]? = some x.it) := by show _ = _; rw [it_kids, List.getElem?_map, hx]; rfl
        have HR := hid hrow
        clear hx hrow
        go_upto_region 8 with (first | (refine wpList_load_mid rfl 30 _ rfl bx (ox + k * 5) rfl x.arr.toList _ HR.out Tryd.underlying30 rfl iSize ?_; simp only [Array.toArray_toList]) | (refine wpList_alloc_obj rfl 30 rfl _ iZero ?_) | (refine wpList_store_obj rfl 30 _ _ rfl wr.heap.size rfl _ rfl _ _ (block_new wr _) rfl iSize (arr_one x) ?_; intro w5 hb5 hc5 hs5; have HB5 := hid hb5; have HC5 := hid hc5; have HS5 := hid hs5; clear hb5 hc5 hs5))
        have hbel : Below wr.heap.size wr w5 := ((Below.refl _ wr).alloc (Nat.le_refl _) _).trans (HC5.out.below (fun k hk => by rw [List.mem_singleton.1 hk]; exact Nat.le_refl _) (by simp))
        have HB := hid (B.out.trans (hbel.mono (by have := HZZ.out; omega))); have HRW5 := hid (HRW.out.below hbel); have HV5 := hid (HV.out.below hbel); have HX5 := hid (HX.out.below hbel); have HS5' := hid (HS.out.below hbel)
        have HZ5 := hid (Nat.le_trans HZZ.out hbel.size)
        clear hbel HC5 HS5 HR B HRW HV HX HS HZZ
        generalize wr.heap.size = c at *
        have hc0 := cell_of_block (j := 0) HB5.out (ar0 x)
        have hpl := fun w' h' => place_any s l at_ x.tag w' h' hat
        rw [HSA.out] at hpl
        have HPL := hid (hpl w5 HS5'.out)
        clear hpl
        go_upto_block 2 with (go_at_call 35; refine HPL.out.mono ?_; rintro e u ⟨rfl, rfl⟩)
        clear hc0 HPL
        cases hp : placeN l at_ x.tag with
        | none =>
          have HE : Hid (parseV l v.it = .error 4) := parse_err (k := k + 1) ((it_typ v).trans HT.out) (by
            rw [kids_take HPK.out HXK.out]; unfold parseStep; simp only [it_tag, hp])
          unfold placeI
          go_wp2_with fail
          go_ret2
          unfold Parsed
          rw [HE.out]
          exact ⟨rfl, by rw [HBE.out]; exact HB.out⟩
        | some j =>
          obtain ⟨hj1, hj2⟩ := place_lt hp
          have hjn : j < s.n := by have := HFL.out; omega
          have HP := hid hp; clear hp
          obtain ⟨bf, off, f, haf, hf, hfr⟩ := HS5'.out.fld hjn
          rw [HSA.out] at haf
          subst haf
          have hsll := HRW5.out.slen
          simp only at hsll
          obtain ⟨sl, hsl⟩ : ∃ sl, sls[j]? = some sl := ⟨sls[j]'(by omega), List.getElem?_eq_getElem _⟩
          obtain ⟨lj, hlj⟩ : ∃ lj, rows[j]? = some lj := ⟨rows[j]'(by have := HRW5.out.len; omega), List.getElem?_eq_getElem _⟩
          have HSLJ := hid hsl; have HLJ := hid hlj
          have hsn40 : sl.n ≤ 1099511627776 := by have := HSK.out sl (List.mem_of_getElem? hsl); omega
          have hsnk : sl.n ≤ k := HSK.out sl (List.mem_of_getElem? hsl)
          have HOJ := hid (HRW5.out.each j sl lj hsl hlj)
          have hco : w5.cell? ⟨b + 1, j, none⟩ = some (.slice sl.a sl.n sl.c) := by rw [HRW5.out.own.cellAt j (by simp; omega), List.getElem?_map, hsl]; rfl
          have HFD : Hid (l.getD j default = f) := by show _ = _; rw [List.getD_eq_getElem?_getD, hf]; rfl
          have HRJ : Hid ((rows.map (fun l => l.map ItV.it)).getD j [] = lj.map ItV.it ∧ ((rows.map (fun l => l.map ItV.it)).getD j []).length = sl.n) := by
            have h1 : (rows.map (fun l => l.map ItV.it)).getD j [] = lj.map ItV.it := by rw [List.getD_eq_getElem?_getD, List.getElem?_map, hlj]; rfl
            exact ⟨h1, by rw [h1, List.length_map, HOJ.out.len]⟩
          have hm3 := range_cell hfr 3 (v := .bool f.many) rfl
          have hf1 := range_cell hfr 1 (v := .int .i64 f.typ) rfl
          have hx1 := cell_of_block (j := 1) HB5.out (ar1 x)
          clear hsl hlj hf hfr hsll
          have HSTEP : Hid (parseKids l (v.it.kids.take (k + 1)) = parseStep l (at_, rows.map (fun l => l.map ItV.it)) x.it) := kids_take HPK.out HXK.out
          have HST2 : Hid (parseStep l (at_, rows.map (fun l => l.map ItV.it)) x.it = if sl.n ≠ 0 ∧ f.many = false then .error 4 else if x.typ ≠ f.typ then .error 7 else .ok (j, (rows.map (fun l => l.map ItV.it)).set j (lj.map ItV.it ++ [x.it]))) := by
            show _ = _
            unfold parseStep
            simp only [it_tag, HP.out, it_typ, HFD.out, HRJ.out.1, HRJ.out.2]
            rw [← HOJ.out.len, List.length_map]
          clear HPK
          show Code.wp _ _ _ ⟨#[_, _, _, _, _, _, _, .int .i64 (j : Int), _, _, _, _, _, _, _, _, _, _, _, _, _, _, _, _, _, _, _, _, _, _, .int .i64 (j : Int), _, _, _, _, _, _, _, _, _, _, _, _, _, _, _, _, _, _, _, _, _, _, _, _, _, _, _, _, _, _, _, _, _, _, _, _, _, _, _, _, _, _, _, _, _, _, _, _, _, _, _, _, _, _, _, _, _, _, _], []⟩ _
          by_cases hbad : sl.n ≠ 0 ∧ f.many = false
          · have HE : Hid (parseV l v.it = .error 4) := parse_err (k := k + 1) ((it_typ v).trans HT.out) (by rw [HSTEP.out, HST2.out, if_pos hbad])
            have hpos : 0 < sl.n := by omega
            rw [hbad.2] at hm3
            clear hbad hx1 hf1
            go_wp2_with fail
            go_ret2
            unfold Parsed
            rw [HE.out]
            exact ⟨rfl, by rw [HBE.out]; exact HB.out⟩
          · have hok : sl.n ≤ 0 ∨ (0 < sl.n ∧ f.many = true) := by
              rcases Nat.eq_zero_or_pos sl.n with h | h
              · left; omega
              · right; refine ⟨h, ?_⟩
                cases hmm : f.many with
                | true => rfl
                | false => exact absurd ⟨by omega, hmm⟩ hbad
            rw [if_neg hbad] at HST2
            clear hbad
            rcases hok with hle | ⟨hpos, hmany⟩
            all_goals
              try rw [hmany] at hm3
              try clear hmany
              go_upto_region 11 with (fail)
              clear hm3 hco
              by_cases hty : x.typ = f.typ
              · have hst2 := HST2.out
                rw [if_neg (by simp [hty])] at hst2
                have HST3 := hid hst2
                clear hst2 HST2
                rw [← hty] at hf1
                clear hty
                go_quiet (fail)
                have hd : Below w5.heap.size w5 (w5.drewN nq) := Go.below_drewN (Below.refl _ _) _
                have HRW6 := hid (HRW5.out.below hd); have HV6 := hid (HV5.out.below hd); have HS6 := hid (HS5'.out.below hd); have HX6 := hid (HX5.out.below hd)
                have HB6 := hid (HB.out.trans (hd.mono (by have := HZ5.out; omega)))
                have HBX6 := hid ((hd.block _ (block_lt HB5.out)).trans HB5.out)
                have HZ6 := hid (Nat.le_trans HZ5.out hd.size)
                clear hd HRW5 HV5 HS5' HX5 HB HB5 HOJ hf1 hx1 HZ5
                generalize w5.drewN nq = w6 at *
                obtain ⟨z, hz⟩ : ∃ z, w6.heap.size = z := ⟨_, rfl⟩
                have HZ := hid hz; clear hz
                have HCO := hid (show w6.cell? ⟨b + 1, j, none⟩ = some (.slice sl.a sl.n sl.c) by rw [HRW6.out.own.cellAt j (by have := HRW6.out.slen; simp at this ⊢; omega), List.getElem?_map, HSLJ.out]; rfl)
                go_upto_region 13 with (fail)
                refine wp_region_eachA 8 #[true, true, true, true, true, true, true, true, false, false, false, false, false] [.eq (.slice (some ⟨b + 1, 0, none⟩) s.n s.n), .eq (.int .i64 (j : Int)), .eq (.pointer (some ⟨b + 1, j, none⟩)), .eq (.slice sl.a sl.n sl.c), .eq (.agg x.arr), stCopy x z, .eq (.int .i64 (sl.n : Int)), stZero 30] (by kernel_rfl) (by kernel_rfl) (by kernel_rfl) (by kernel_rfl) (by kernel_rfl) ?_ ?_
                · as_aux_lemma =>
                    refine each_5 ?_ ?_ ?_ ?_ ?_ (each_c ?_ (each_c ?_ (each_c ?_ (each_n))))
                    · intro w1 hg Ar seen
                      have s6 := seen.sl 6 (.slice (some ⟨b + 1, 0, none⟩) s.n s.n)
                      refine does_plain rfl fun K Q' hK => ?_
                      go_simp; exact hK _ _ (Grow.refl _) rfl
                    · intro w1 hg Ar seen
                      have s7 := seen.sl 7 (.int .i64 (j : Int))
                      refine does_plain rfl fun K Q' hK => ?_
                      go_simp; exact hK _ _ (Grow.refl _) rfl
                    · intro w1 hg Ar seen
                      have e0 := seen.de 0 59
                      have e1 := seen.de 1 60
                      refine does_plain rfl fun K Q' hK => ?_
                      go_simp; exact hK _ _ (Grow.refl _) rfl
                    · intro w1 hg Ar seen
                      have e2 := seen.de 2 61
                      refine does_plain rfl fun K Q' hK => ?_
                      have hc := cell_later hg HCO.out
                      go_simp; exact hK _ _ (Grow.refl _) rfl
                    · intro w1 hg Ar seen
                      have s9 := seen.sl 9 (.pointer (some ⟨c, 0, none⟩))
                      refine does_plain rfl fun K Q' hK => ?_
                      refine wp_load_row 30 _ rfl c (by simp [Act.eval, s9]) _ _ _ _ ((hg.block _ (block_lt HBX6.out)).trans HBX6.out) Tryd.underlying30 rfl iSize ?_
                      exact hK _ _ (Grow.refl _) rfl
                    · intro w1 hg Ar seen
                      have e4 := seen.de 4 63
                      refine does_plain rfl fun K Q' hK => ?_
                      go_simp
                      refine (payCopied_any x _ (HX6.out.below hg)).mono ?_
                      rintro e u ⟨x', rfl, h1, h2, h3, hb⟩
                      exact hK _ _ hb ⟨x', rfl, h1, h2, fun k hk => by have := h3 k hk; have := hg.size; have := HZ.out; omega⟩
                    · intro w1 hg Ar seen
                      have e3 := seen.de 3 62
                      refine does_plain rfl fun K Q' hK => ?_
                      go_simp; exact hK _ _ (Grow.refl _) rfl
                    · intro w1 hg Ar seen
                      refine does_plain rfl fun K Q' hK => ?_
                      refine wp_build_item _ 30 _ rfl itZ rfl i Tryd.underlying28 hi hz0 hz1 ?_
                      exact hK _ _ ((Below.refl _ _).alloc (Nat.le_refl _) _) ⟨_, rfl, block_new _ _⟩
                intro w1 hg
                refine upon_w' (js := [0, 1, 2, 3, 4, 5, 6, 7]) (by rfl) ?_
                refine upon_e (some 59) (upon_e (some 60) (upon_e (some 61) (upon_e (some 62) (upon_e (some 63) (upon_v (some 64) fun v5 h5 => upon_e (some 65) (upon_v (some 66) fun v7 h7 => upon_n ?_))))))
                go_simp
                obtain ⟨x', rfl, hit, hok, hlow⟩ := h5
                obtain ⟨p, rfl, hp⟩ := h7
                have HPB := hid hp; have HIT := hid hit; have HOK := hid hok; have HLOW := hid hlow
                have HRW1 := hid (HRW6.out.below hg)
                have HOJ1 := hid (HRW1.out.each j sl lj HSLJ.out HLJ.out)
                have HV1 := hid (HV6.out.below hg); have HS1 := hid (HS6.out.below hg)
                have HB1 := hid (HB6.out.trans (hg.mono (by have := HZ6.out; omega)))
                have HOLD : Hid (∀ si ∈ sls, ∀ q, si.v.ownBlock = some q → q < z) := by
                  intro si hsi q hq
                  obtain ⟨j', hj'⟩ := List.getElem?_of_mem hsi
                  obtain ⟨l', hl'⟩ : ∃ l', rows[j']? = some l' := ⟨rows[j']'(by have := (List.getElem?_eq_some_iff.1 hj').1; have := HRW6.out.len; omega), List.getElem?_eq_getElem _⟩
                  have := ((HRW6.out.each j' si l' hj' hl').own.lt q hq).2
                  have := HZ.out; omega
                have HGZ : Hid (z ≤ w1.heap.size) := by show _ ≤ _; rw [← HZ.out]; exact hg.size
                have HBZ : Hid (b + 2 ≤ z) := by show _ ≤ _; rw [← HZ.out]; exact HZ6.out
                clear hp hit hok hlow hg HCO HRW6 HV6 HS6 HX6 HB6 HBX6 HZ6
                have HBB : Hid (∀ q, sl.v.ownBlock = some q → b ≤ q ∧ q ≠ b + 1) := fun q hq => ⟨(HOJ1.out.own.lt q hq).1, fun he => typ_ne HRW1.out.own HOJ1.out.own (by decide) rfl (by rw [← he]; exact hq)⟩
                go_simp
                refine wpAny_ready (rs := [8]) (by kernel_rfl) (by simp) ?_
                refine AllReady.cons rfl (fun K hK => ?_) AllReady.nil
                refine step_append_c rfl _ _ 28 rfl b 30 i _ 5 72 Tryd.underlying28 hi hz0 hz1 hz2 rfl (by decide) (.slice sl.a sl.n sl.c) sl.n _ rfl HOJ1.out.own _ 1 _ itZ.arr.toList rfl (RdC.of_block HPB.out) (by have := itm_one [itZ]; simpa [itmCells, ItV.cells] using this) (fun hx => by cases hx) (by unfold maxLen; omega) (by omega) (by have := HGZ.out; have := HBZ.out; omega) ?_
                intro a' c' w7 hown hgw hfr
                obtain ⟨g, rfl, hgb, hgl⟩ := (own_slice hown).2.2 (by omega)
                have HO7 := hid hown
                have HF7 := hid hfr
                have HC7 : Hid (Chg sl.v.ownBlock.toList w1 w7) := (Chg.refl _ w1).grown hgw (fun k hk => .inl (by rw [hk]; simp))
                have HGB : Hid (b ≤ g ∧ g ≠ b + 1) := by
                  rcases hfr with h' | h'
                  · exact HBB.out g (by rw [← h']; rfl)
                  · have := h' g rfl
                    have := HGZ.out; have := HBZ.out
                    exact ⟨by omega, by omega⟩
                clear hown hgw hfr hgb hgl
                refine hK _ _ ?_
                clear hK K
                go_simp
                refine wpAny_take (i := 9) (v := .pointer (some ⟨g, sl.n * 5, none⟩)) rfl (by kernel_rfl) (by kernel_rfl) (by kernel_rfl) (fun _ _ _ h => h) (Or.inl ⟨by rfl, by intro w; go_simp; try (intro hx; exfalso; omega)⟩) ?_
                refine wpAny_take (i := 11) (v := .pointer (some ⟨b + 1, j, none⟩)) rfl (by kernel_rfl) (by kernel_rfl) (by kernel_rfl) (fun _ _ _ h => h) (Or.inl ⟨by rfl, by intro w; go_simp; try (intro hx; exfalso; omega)⟩) ?_
                have FIN : ∀ w9, Chg ((b + 1) :: sl.v.ownBlock.toList) w1 w9 → w9.ownsRow b 30 5 (.slice (some ⟨g, 0, none⟩) (sl.n + 1) c') (sl.n + 1) (itmCells (lj ++ [x'])) →
                    w9.ownsRow b 28 1 (.slice (some ⟨b + 1, 0, none⟩) s.n s.n) s.n ((sls.set j ⟨some ⟨g, 0, none⟩, sl.n + 1, c'⟩).map Sl.v) →
                    parseKids l (v.it.kids.take (k + 1)) = .ok (j, (rows.set j (lj ++ [x'])).map (fun l => l.map ItV.it)) ∧ (∀ si ∈ sls.set j ⟨some ⟨g, 0, none⟩, sl.n + 1, c'⟩, si.n ≤ k + 1) ∧ Rows2 28 30 w9 b b ⟨some ⟨b + 1, 0, none⟩, s.n, s.n⟩ (sls.set j ⟨some ⟨g, 0, none⟩, sl.n + 1, c'⟩) (rows.set j (lj ++ [x'])) ∧ Below b w w9 ∧ b + 2 ≤ w9.heap.size ∧ v.ok w9 ∧ SlR w9 s 4 (fldCells l) := by
                  intro w9 hc hrow hout
                  have hlowb : ∀ q ∈ (b + 1) :: sl.v.ownBlock.toList, b ≤ q := fun q hq => by
                    rcases List.mem_cons.1 hq with h' | h'
                    · omega
                    · rcases Nat.lt_or_ge q b with h2 | h2
                      · exact absurd h' (HOJ1.out.ahead h2)
                      · exact h2
                  refine ⟨?_, ?_, ?_, HB1.out.trans (hc.below hlowb (by have := HGZ.out; have := HBZ.out; omega)), by have := HGZ.out; have := HBZ.out; have := hc.size; omega, ItV.ok.keep hc HV1.out (fun q hq hm => by have := hlowb q hm; have := HLT.out q hq; omega), HS1.out.keep hc (fun q hq hm => by have := hlowb q hm; have := HSL.out q hq; omega)⟩
                  · rw [HSTEP.out, HST3.out, List.map_set, List.map_append, List.map_cons, List.map_nil, HIT.out]
                  · intro si hsi
                    rcases List.mem_or_eq_of_mem_set hsi with h' | h'
                    · have := HSK.out si h'; omega
                    · rw [h']; simp only; omega
                  · refine HRW1.out.push (by decide) (g := b + 1) rfl HSLJ.out HLJ.out x' HOK.out (fun q hq => by have := HLOW.out q hq; have := HBZ.out; omega) (fun q hq => ⟨fun si hsi he => ?_, fun he => ?_⟩) hc hrow hout HF7.out
                    · have := HOLD.out si hsi q he; have := HLOW.out q hq; omega
                    · have he2 : some (b + 1) = some q := he
                      cases he2
                      have := HLOW.out _ hq; have := HBZ.out; omega
                have FINH := hid FIN
                clear FIN
                have HXL : Hid ((itmCells lj).length = sl.n * 5) := by show _ = _; rw [itm_len, HOJ1.out.len]
                have HAPP : Hid (itmCells (lj ++ [x']) = itmCells lj ++ x'.cells) := by show _ = _; rw [itm_app]; simp [itmCells]
                have HO1 : Hid (w7.ownsRow b 28 1 (.slice (some ⟨b + 1, 0, none⟩) s.n s.n) s.n (sls.map Sl.v)) := HC7.out.owns HRW1.out.own (fun q hq hm => by
                  have hq2 : some (b + 1) = some q := hq
                  cases hq2
                  cases hv : sl.v.ownBlock with
                  | none => rw [hv] at hm; cases hm
                  | some y => rw [hv] at hm; simp at hm; exact (HBB.out y hv).2 hm.symm)
                have HFR : Hid (Fresh ((b + 1) :: sl.v.ownBlock.toList) [g] w1) := fun q hq => by
                  rw [List.mem_singleton.1 hq]
                  rcases HF7.out with h' | h'
                  · left; exact List.mem_cons_of_mem _ (by rw [← show _ = sl.v.ownBlock from h']; simp [Value.ownBlock])
                  · right; exact h' g rfl
                have HCM : Hid (Chg ((b + 1) :: sl.v.ownBlock.toList) w1 w7) := HC7.out.mono (fun q hq => List.mem_cons_of_mem _ hq)
                have HJL : Hid (j < s.n * 1) := by show _ < _; omega
                refine wpAny_ready (rs := [10, 12]) (by kernel_rfl) (by simp) ?_
                refine AllReady.cons rfl (fun K hK => ?_) (AllReady.cons rfl (fun K hK => ?_) AllReady.nil)
                · rw [if_pos (by rfl)]
                  refine wp_store_item 30 _ _ rfl g (sl.n * 5) rfl x' rfl HO7.out rfl HXL.out rfl iSize (arr_one x') ?_
                  intro w8 hown8 hc8 hs8
                  have HO8 := hid hown8; have HC8 := hid hc8
                  have HOO : Hid (w8.ownsRow b 28 1 (.slice (some ⟨b + 1, 0, none⟩) s.n s.n) s.n (sls.map Sl.v)) := hc8.owns HO1.out (fun q hq hm => by
                    have hq2 : some (b + 1) = some q := hq
                    cases hq2
                    exact HGB.out.2 (List.mem_singleton.1 hm).symm)
                  have hco := (show w8.cell? ⟨b + 1, j, none⟩ = some (.slice sl.a sl.n sl.c) by rw [HOO.out.cellAt j HJL.out, List.getElem?_map, HSLJ.out]; rfl)
                  have hfz := HOO.out.frozenAt j
                  clear hown8 hc8 hs8
                  refine hK _ _ ?_
                  clear hK K
                  refine wpAny_ready (rs := [12]) (by kernel_rfl) (by simp) ?_
                  refine AllReady.cons rfl (fun K hK => ?_) AllReady.nil
                  go_simp
                  refine hK _ _ ?_
                  clear hK K hco hfz
                  refine wpAny_done (by kernel_rfl) ?_ _
                  have hset : Chg [b + 1] w8 (w8.setCell ⟨b + 1, j, none⟩ (.slice (some ⟨g, 0, none⟩) (sl.n + 1) c')) := (Chg.refl _ w8).setCell (.inl (by simp)) _
                  have H9 := hid (FINH.out _ ((HCM.out.trans HC8.out HFR.out).trans hset (fun q hq => by rw [List.mem_singleton.1 hq]; exact .inl (by simp)))
                    (by rw [HAPP.out]; exact hset.owns HO8.out (fun q hq hm => by have hq2 : some g = some q := hq; cases hq2; exact HGB.out.2 (List.mem_singleton.1 hm)))
                    (by have := (HOO.out.stored j (.slice (some ⟨g, 0, none⟩) (sl.n + 1) c')).1; rwa [← List.map_set (f := Sl.v) (a := ⟨some ⟨g, 0, none⟩, sl.n + 1, c'⟩)] at this))
                  clear hset
                  go_wp2_with fail
                  go_roundw
                  case rel =>
                    first
                      | exact ⟨k + 1, j, _, _, by omega, by go_num, rfl, by omega, H9.out⟩
                      | ((repeat apply Exists.intro); exact ⟨⟨k + 1, j, _, _, by omega, by go_num, rfl, by omega, H9.out⟩, rfl⟩)
                  case measure => simp [intOf]; omega
                · have hco := (show w7.cell? ⟨b + 1, j, none⟩ = some (.slice sl.a sl.n sl.c) by rw [HO1.out.cellAt j HJL.out, List.getElem?_map, HSLJ.out]; rfl)
                  have hfz := HO1.out.frozenAt j
                  go_simp
                  refine hK _ _ ?_
                  clear hK K hco hfz
                  have hset : Chg [b + 1] w7 (w7.setCell ⟨b + 1, j, none⟩ (.slice (some ⟨g, 0, none⟩) (sl.n + 1) c')) := (Chg.refl _ w7).setCell (.inl (by simp)) _
                  have HO8 := hid (hset.owns HO7.out (fun q hq hm => by have hq2 : some g = some q := hq; cases hq2; exact HGB.out.2 (List.mem_singleton.1 hm)))
                  have HOO : Hid (_) := hid (HO1.out.stored j (.slice (some ⟨g, 0, none⟩) (sl.n + 1) c')).1
                  have HCS := hid (HCM.out.trans hset (fun q hq => by rw [List.mem_singleton.1 hq]; exact .inl (by simp)))
                  clear hset
                  generalize w7.setCell ⟨b + 1, j, none⟩ (.slice (some ⟨g, 0, none⟩) (sl.n + 1) c') = w8 at *
                  refine wpAny_ready (rs := [10]) (by kernel_rfl) (by simp) ?_
                  refine AllReady.cons rfl (fun K hK => ?_) AllReady.nil
                  rw [if_pos (by rfl)]
                  refine wp_store_item 30 _ _ rfl g (sl.n * 5) rfl x' rfl HO8.out rfl HXL.out rfl iSize (arr_one x') ?_
                  intro w9 hown9 hc9 hs9
                  refine hK _ _ ?_
                  clear hK K
                  refine wpAny_done (by kernel_rfl) ?_ _
                  have H9 := hid (FINH.out w9 (HCS.out.trans hc9 HFR.out) (by rw [HAPP.out]; exact hown9)
                    (by
                      have h1 := hc9.owns HOO.out (fun q hq hm => by have hq2 : some (b + 1) = some q := hq; cases hq2; exact HGB.out.2 (List.mem_singleton.1 hm).symm)
                      rwa [← List.map_set (f := Sl.v) (a := ⟨some ⟨g, 0, none⟩, sl.n + 1, c'⟩)] at h1))
                  clear hown9 hc9 hs9
                  go_wp2_with fail
                  go_roundw
                  case rel =>
                    first
                      | exact ⟨k + 1, j, _, _, by omega, by go_num, rfl, by omega, H9.out⟩
                      | ((repeat apply Exists.intro); exact ⟨⟨k + 1, j, _, _, by omega, by go_num, rfl, by omega, H9.out⟩, rfl⟩)
                  case measure => simp [intOf]; omega
              · have hne : (x.typ == f.typ) = false := by simpa using hty
                have HE : Hid (parseV l v.it = .error 7) := parse_err (k := k + 1) ((it_typ v).trans HT.out) (by rw [HSTEP.out, HST2.out, if_pos hty])
                clear hty
                go_quiet (fail)
                go_wp2_with fail
                go_ret2
                unfold Parsed
                rw [HE.out]
                exact ⟨rfl, by rw [HBE.out]; exact Go.below_drewN HB.out _⟩
      · obtain rfl : k = v.ks.n := by omega
        have HPA : Hid (parseV l v.it = if missing l (rows.map (fun l => l.map ItV.it)) = true then .error 6 else .ok (rows.map (fun l => l.map ItV.it))) := by
          refine parse_ok (st := (at_, _)) ((it_typ v).trans HT.out) ?_
          have h1 := HPK.out
          rwa [List.take_of_length_le (by rw [it_kids, List.length_map, HKL.out]; exact Nat.le_refl _)] at h1
        have HSB : Hid (∀ sl ∈ sls, sl.n ≤ 1099511627776) := fun sl h => by have := HSK.out sl h; omega
        have hsl0 := HRW.out.slen
        have hrl0 := HRW.out.len
        simp only at hsl0
        have HSL0 := hid hsl0; have HRL0 := hid hrl0
        clear HPK HSK hsl0 hrl0
        go_wp2_with fail
        go_loopw [73] (fun y wr => ∃ q : Nat, q ≤ s.n ∧ y = .int .i64 q ∧ (∀ r, r < q → missK l (rows.map (fun l => l.map ItV.it)) r = false) ∧ Rows2 28 30 wr b b ⟨some ⟨b + 1, 0, none⟩, s.n, s.n⟩ sls rows ∧ Below b w wr ∧ b + 2 ≤ wr.heap.size ∧ SlR wr s 4 (fldCells l)) (fun y _ => s.n - (intOf y).toNat)
        case atStart => exact ⟨0, Nat.zero_le _, rfl, fun r h => absurd h (Nat.not_lt_zero _), HRW.out, B.out, HZZ.out, HS.out⟩
        case round =>
          clear HRW B HZZ HS HV
          obtain ⟨q, hq, rfl, hmq, hr, hb, hzz, hs⟩ := hrel
          have HRW := hid hr; have B := hid hb; have HZZ := hid hzz; have HS := hid hs; have HMQ := hid hmq
          clear hr hb hzz hs hmq
          by_cases hlt : q < s.n
          · obtain ⟨bf, off, f, haf, hf, hfr⟩ := HS.out.fld hlt
            rw [HSA.out] at haf
            subst haf
            obtain ⟨sl, hsl⟩ : ∃ sl, sls[q]? = some sl := ⟨sls[q]'(by have := HSL0.out; omega), List.getElem?_eq_getElem _⟩
            obtain ⟨lj, hlj⟩ : ∃ lj, rows[q]? = some lj := ⟨rows[q]'(by have := HRL0.out; have := HSL0.out; omega), List.getElem?_eq_getElem _⟩
            have HOJ := hid (HRW.out.each q sl lj hsl hlj)
            have HMK : Hid (missK l (rows.map (fun l => l.map ItV.it)) q = (f.need && decide (sl.n = 0))) := by
              show _ = _
              unfold missK
              have h1 : (rows.map (fun l => l.map ItV.it)).getD q [] = lj.map ItV.it := by rw [List.getD_eq_getElem?_getD, List.getElem?_map, hlj]; rfl
              have h2 : l.getD q default = f := by rw [List.getD_eq_getElem?_getD, hf]; rfl
              rw [h1, h2, ← HOJ.out.len]
              cases lj <;> simp
            have HFR := hid hfr
            have hsn40 : sl.n ≤ 1099511627776 := HSB.out sl (List.mem_of_getElem? hsl)
            have HSLJ := hid hsl
            clear hf hfr hsl hlj
            go_upto_region 18 with (first | (refine wpList_load_mid rfl 64 _ rfl bf (off + q * 4) rfl f.arr.toList _ HFR.out Tryd.underlying64 rfl fSize ?_; simp only [Array.toArray_toList]) | (refine wpList_alloc_obj rfl 64 rfl _ fZero ?_) | (refine wpList_store_obj rfl 64 _ _ rfl wr.heap.size rfl _ rfl _ _ (block_new wr _) rfl fSize (farr_one f) ?_; intro w5 hb5 hc5 hs5; have HB5 := hid hb5; have HC5 := hid hc5; have HS5 := hid hs5; clear hb5 hc5 hs5))
            have hbel : Below wr.heap.size wr w5 := ((Below.refl _ wr).alloc (Nat.le_refl _) _).trans (HC5.out.below (fun k hk => by rw [List.mem_singleton.1 hk]; exact Nat.le_refl _) (by simp))
            have HB := hid (B.out.trans (hbel.mono (by have := HZZ.out; omega))); have HRW5 := hid (HRW.out.below hbel); have HS5' := hid (HS.out.below hbel)
            have HZ5 := hid (Nat.le_trans HZZ.out hbel.size)
            have hco : w5.cell? ⟨b + 1, q, none⟩ = some (.slice sl.a sl.n sl.c) := by rw [HRW5.out.own.cellAt q (by simp; omega), List.getElem?_map, HSLJ.out]; rfl
            clear hbel HC5 HS5 HFR B HRW HS HZZ
            generalize wr.heap.size = c at *
            have hc2 := cell_of_block (j := 2) HB5.out (v := .bool f.need) rfl
            cases hnd : f.need with
            | false =>
              rw [hnd] at hc2
              have HM2 : Hid (missK l (rows.map (fun l => l.map ItV.it)) q = false) := by have := HMK.out; rw [hnd] at this; simpa [Hid] using this
              clear hnd HMK
              go_wp2_with fail
              go_roundw
              case rel =>
                have h1 : ∀ r, r < q + 1 → missK l (rows.map (fun l => l.map ItV.it)) r = false := fun r hr => by
                  rcases Nat.lt_or_ge r q with h' | h'
                  · exact HMQ.out r h'
                  · obtain rfl : r = q := by omega
                    exact HM2.out
                first
                  | exact ⟨q + 1, by omega, by go_num, h1, HRW5.out, HB.out, HZ5.out, HS5'.out⟩
                  | ((repeat apply Exists.intro); exact ⟨⟨q + 1, by omega, by go_num, h1, HRW5.out, HB.out, HZ5.out, HS5'.out⟩, rfl⟩)
              case measure => simp [intOf]; omega
            | true =>
              rw [hnd] at hc2
              by_cases hz : sl.n = 0
              · have HM2 : Hid (missK l (rows.map (fun l => l.map ItV.it)) q = true) := by have := HMK.out; rw [hnd, hz] at this; simpa [Hid] using this
                have HE : Hid (parseV l v.it = .error 6) := by
                  show _ = _
                  rw [HPA.out, if_pos (missing_yes (k := q) (by have := HFL.out; omega) HM2.out)]
                rw [hz] at hco
                clear hnd HMK hz
                go_wp2_with fail
                go_ret2
                unfold Parsed
                rw [HE.out]
                exact ⟨rfl, by rw [HBE.out]; exact HB.out⟩
              · have HM2 : Hid (missK l (rows.map (fun l => l.map ItV.it)) q = false) := by have := HMK.out; rw [hnd] at this; simpa [Hid, hz] using this
                have hne : ((sl.n : Int) == 0) = false := by simp; omega
                clear hnd HMK hz
                go_wp2_with fail
                go_roundw
                case rel =>
                  have h1 : ∀ r, r < q + 1 → missK l (rows.map (fun l => l.map ItV.it)) r = false := fun r hr => by
                    rcases Nat.lt_or_ge r q with h' | h'
                    · exact HMQ.out r h'
                    · obtain rfl : r = q := by omega
                      exact HM2.out
                  first
                    | exact ⟨q + 1, by omega, by go_num, h1, HRW5.out, HB.out, HZ5.out, HS5'.out⟩
                    | ((repeat apply Exists.intro); exact ⟨⟨q + 1, by omega, by go_num, h1, HRW5.out, HB.out, HZ5.out, HS5'.out⟩, rfl⟩)
                case measure => simp [intOf]; omega
          · have HE : Hid (parseV l v.it = .ok (rows.map (fun l => l.map ItV.it))) := by
              show _ = _
              rw [HPA.out, if_neg (by rw [missing_no (fun r hr => HMQ.out r (by have := HFL.out; omega))]; simp)]
            obtain rfl : q = s.n := by omega
            go_wp2_with fail
            go_ret2
            unfold Parsed
            rw [HE.out]
            refine ⟨⟨some ⟨b + 1, 0, none⟩, s.n, s.n⟩, sls, rows, rfl, ?_, rfl, HSB.out, by rw [HBE.out]; exact B.out⟩
            rw [HBE.out]
            exact HRW.out
  · have hne : (v.typ == 1) = false := by simpa using ht
    have HE := hid (parse_typ (l := l) (i := v.it) (by rw [it_typ]; exact ht))
    clear ht
    go_wp2_with fail
    go_ret2
    unfold Parsed
    rw [HE.out]
    exact ⟨rfl, by rw [HBE.out]; exact HBW.out⟩
end Go.Proofs.YteenglgnakenmaaDoor
