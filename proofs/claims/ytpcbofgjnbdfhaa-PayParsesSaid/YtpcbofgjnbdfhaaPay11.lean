/- PayBack: the walk. -/
import Derived.Test.YtpcbofgjnbdfhaaPay9
import Derived.Test.YtpcbofgjnbdfhaaPayB
import Derived.Test.YtpcbofgjnbdfhaaInts
namespace Go.Proofs.Ytpcbofgjnbdfhaa
open Go.RowKit
set_option linter.unusedVariables false
set_option linter.unusedSimpArgs false
set_option maxRecDepth 100000
set_option maxHeartbeats 3200000
def bkV (a j : Nat) : ItV := { tag := 100 + (a : Int), typ := 2, int := 10 * (a : Int) + (j : Int) }
def bkGrpV (a n : Nat) : List ItV := (List.range n).map (bkV a)
def bkKidsV (f : Nat → Nat) (i : Nat) : List ItV := (List.range i).flatMap fun a => bkGrpV a (f a)
theorem bkV_it (a j : Nat) : (bkV a j).it = bkKid a j := it_flat _ _ _ _ _
theorem bkKidsV_it (f : Nat → Nat) (i : Nat) : (bkKidsV f i).map ItV.it = bkKids f i := by
  unfold bkKidsV bkKids bkGrpV bkGrp
  rw [List.map_flatMap]
  congr 1
  funext a
  rw [List.map_map]
  exact List.map_congr_left fun j _ => bkV_it a j
theorem bkKidsV_succ (f : Nat → Nat) (i : Nat) : bkKidsV f (i + 1) = bkKidsV f i ++ bkGrpV i (f i) := by
  unfold bkKidsV; rw [List.range_succ, List.flatMap_append]; simp
theorem bkGrpV_succ (a n : Nat) : bkGrpV a (n + 1) = bkGrpV a n ++ [bkV a n] := by unfold bkGrpV; rw [List.range_succ, List.map_append]; rfl
theorem bkFlds_succ (f : Nat → Nat) (i : Nat) : bkFlds f (i + 1) = bkFlds f i ++ [bkFld i (f i)] := by unfold bkFlds; rw [List.range_succ, List.map_append]; rfl
/-- Fields' row of the call's own. -/
def OwnF (w : World) (base : Nat) (s : Sl) (l : List Fld) : Prop := w.ownsRow base 28 4 (.slice s.a s.n s.c) s.n (fldCells l)
theorem OwnF.below {w w' : World} {base : Nat} {s : Sl} {l : List Fld} (h : OwnF w base s l) (hb : Below w.heap.size w w') : OwnF w' base s l := (Chg.of_below hb []).owns h (fun k _ hm => by cases hm)
theorem bkV_foot (a j : Nat) : (bkV a j).foot = [] := rfl
theorem bkKidsV_foot (f : Nat → Nat) (i : Nat) (x : ItV) (h : x ∈ bkKidsV f i) : x.foot = [] := by
  obtain ⟨a, _, ha⟩ := List.mem_flatMap.1 h
  obtain ⟨j, _, rfl⟩ := List.mem_map.1 ha
  rfl
def bkF (ls : List Int) (a : Nat) : Nat := pickN (ls.getD a 0) 4
theorem fInfo : (Try.prog.info? 28).map (fun i => (i.zero, i.size, i.bytes)) = some (some (.agg fldZ.arr), 4, 24) := by kernel_rfl
theorem payBack_walk (ls : List Int) (aS : Option Addr) (nS cS : Nat) (w : World) (has : ArgSl 1 IntR w (.slice aS nS cS) ls) :
    Calls Try.prog 5 #[.slice aS nS cS] w fun e w' => e = .returned (.bool true) ∧ Below w.heap.size w w' := by
  obtain ⟨i, hi, hz0, hz1, hz2⟩ := info_parts iInfo
  obtain ⟨i1, hi1, hy0, hy1, hy2⟩ := info_parts fInfo
  have HS := hid has
  have hlen := Ints.len has
  have HLEN := hid hlen
  have hnS : nS ≤ 140737488355328 := by omega
  clear has hlen
  generalize hbe : w.heap.size = b
  have HBE := hid hbe; clear hbe
  go_enter Try.func5, Try.ntmps5
  go_upto_block 0 with (fail)
  go_cut [3, 4] (fun u3 u4 wx => ∃ (m : Nat) (sF sK : Sl), m = min nS 8 ∧ u3 = .slice sF.a sF.n sF.c ∧ u4 = .slice sK.a sK.n sK.c ∧ sF.n = m ∧ sK.n ≤ 32 ∧ OwnF wx b sF (bkFlds (bkF ls) m) ∧ OwnIt 33 wx b b sK (bkKidsV (bkF ls) m) ∧ Below b w wx)
  case first =>
    go_wp2_with fail
    go_loopw [3, 4, 5] (fun u3 u4 u5 wr => ∃ (k : Nat) (sF sK : Sl), k ≤ nS ∧ k ≤ 8 ∧ u5 = .int .i64 k ∧ u3 = .slice sF.a sF.n sF.c ∧ u4 = .slice sK.a sK.n sK.c ∧ sF.n = k ∧ sK.n ≤ 4 * k ∧ OwnF wr b sF (bkFlds (bkF ls) k) ∧ OwnIt 33 wr b b sK (bkKidsV (bkF ls) k) ∧ Below b w wr) (fun _ _ u _ => 8 - (intOf u).toNat)
    case atStart => exact ⟨0, {}, {}, Nat.zero_le _, Nat.zero_le _, rfl, rfl, rfl, rfl, Nat.zero_le _, World.ownsRow_nil _ _ _ _, OwnIt.nil _ _ _ _, Below.refl _ _⟩
    case round =>
      obtain ⟨k, sF, sK, hk, hk8, rfl, rfl, rfl, hsf, hsk, hof, hok, hb⟩ := hrel
      have HOF := hid hof; have HOK := hid hok; have B := hid hb; have HSF := hid hsf; have HSK := hid hsk
      clear hof hok hb hsf hsk
      by_cases hlt : k < nS
      · by_cases hlt8 : k < 8
        · obtain ⟨bS, oS, z, haS, hz, hzb, hc0⟩ := Ints.get HS.out hlt
          have hbel : Below w.heap.size w wr := by rw [HBE.out]; exact B.out
          have hcz := cell_later hbel hc0
          subst haS
          obtain ⟨q, hq⟩ : ∃ q, pickN z 4 = q := ⟨_, rfl⟩
          have hpe : pick z 4 = (q : Int) := by rw [← hq]; exact pickN_eq z 4 (by omega)
          have hq4 : q < 4 := by rw [← hq]; exact pickN_lt z 4 (by omega)
          have HFK : Hid (bkF ls k = q) := by show _ = _; unfold bkF; rw [List.getD_eq_getElem?_getD, hz]; exact hq
          have HPE := hid hpe
          have HBW : Hid (b ≤ wr.heap.size) := by show _ ≤ _; rw [← HBE.out]; exact hbel.size
          clear hbel hc0 hz hq hpe
          go_upto_region 7 with (go_at_call 7; refine (pick_any z 4 _ (by omega) (by omega)).mono ?_; rintro e u ⟨rfl, rfl⟩; rw [HPE.out])
          clear hcz hzb
          go_upto_region 8 with (at_builtin; go_must (refine wpList_append_c rfl _ _ 23 rfl b 28 i1 _ 4 24 Try.underlying23 hi1 hy0 hy1 hy2 rfl (by decide) (.slice sF.a sF.n sF.c) sF.n _ rfl (HOF.out.below ((Below.refl _ _).alloc (Nat.le_refl _) (.cells (bkFld k q).arr 28))) _ 1 _ (bkFld k q).arr.toList rfl (RdC.new _ _ _ _ _ rfl 4 rfl _ rfl) (by have := fld_one [bkFld k q]; simpa [fldCells] using this) (fun hx => by cases hx) (by unfold maxLen; have := HSF.out; omega) (by have := HSF.out; omega) (by have := HBW.out; simp; omega) ?_); go_loud (intro a' c' w7 hown hgw hfr; have HO7 := hid hown; have HG7 := hid hgw; clear hown hgw hfr))
          have hal : Below wr.heap.size wr (wr.alloc (.cells (bkFld k q).arr 28)) := (Below.refl _ _).alloc (Nat.le_refl _) _
          have hch : Chg sF.v.ownBlock.toList wr w7 := ((Chg.refl _ wr).alloc _).grown HG7.out (fun k hk => .inl (by rw [hk]; simp))
          have hin2 : ∀ q, q ∈ sF.v.ownBlock.toList → sF.v.ownBlock = some q := fun q hm => by
            cases hv : sF.v.ownBlock with
            | none => rw [hv] at hm; cases hm
            | some y => rw [hv] at hm; simp at hm; rw [hm]
          have hof : OwnF w7 b ⟨a', sF.n + 1, c'⟩ (bkFlds (bkF ls) (k + 1)) := by
            rw [bkFlds_succ, HFK.out]; unfold OwnF; rw [fld_app]; simpa [fldCells] using HO7.out
          have hok : OwnIt 33 w7 b b sK (bkKidsV (bkF ls) k) := HOK.out.chg hch (fun q hq hm => typ_ne HOF.out HOK.out.own (by decide) (hin2 q hm) hq) (fun x hx q hq hm => by
            have hff : x.foot = [] := bkKidsV_foot _ _ x hx
            rw [hff] at hq; cases hq)
          have hb7 : Below b w w7 := B.out.trans (hch.below (fun q hq => (HOF.out.lt q (hin2 q hq)).1) HBW.out)
          have HOF7 := hid hof; have HOK7 := hid hok; have B7 := hid hb7
          have HBW7 := hid (Nat.le_trans HBW.out hch.size)
          have HSF7 := hid HSF.out
          clear hal hch hin2 hof hok hb7 HO7 HG7 HOF HOK B HBW HSF
          go_upto_block 2 with (fail)
          refine wp_last' (fun K2 hK2 => ?_)
          go_cut [4] (fun u wx => ∃ sK2 : Sl, u = .slice sK2.a sK2.n sK2.c ∧ sK2.n ≤ 4 * k + 4 ∧ OwnF wx b ⟨a', sF.n + 1, c'⟩ (bkFlds (bkF ls) (k + 1)) ∧ OwnIt 33 wx b b sK2 (bkKidsV (bkF ls) (k + 1)) ∧ Below b w wx)
          case first =>
            go_wp2_with fail
            go_loopw [4, 7] (fun u y wr => ∃ (j : Nat) (s2 : Sl), j ≤ q ∧ y = .int .i64 j ∧ u = .slice s2.a s2.n s2.c ∧ s2.n ≤ 4 * k + j ∧ OwnF wr b ⟨a', sF.n + 1, c'⟩ (bkFlds (bkF ls) (k + 1)) ∧ OwnIt 33 wr b b s2 (bkKidsV (bkF ls) k ++ bkGrpV k j) ∧ Below b w wr ∧ b ≤ wr.heap.size) (fun _ y _ => q - (intOf y).toNat)
            case atStart => exact ⟨0, sK, Nat.zero_le _, rfl, rfl, HSK.out, HOF7.out, by simpa [bkGrpV] using HOK7.out, B7.out, HBW7.out⟩
            case round =>
              clear HOF7 HOK7 B7 HBW7
              obtain ⟨j, s2, hj, rfl, rfl, hs2, hof, hok, hb, hbw⟩ := hrel
              have HOF := hid hof; have HOK := hid hok; have B := hid hb; have HBW := hid hbw; have HS2 := hid hs2
              clear hof hok hb hbw hs2
              by_cases hjq : j < q
              · go_wp2_with fail
                refine (payNumber_any (100 + (k : Int)) 2 (10 * (k : Int) + (j : Int)) _).mono ?_
                rintro e w8 ⟨rfl, hb8⟩
                have HOF8 := hid (HOF.out.below hb8); have HOK8 := hid (HOK.out.below hb8)
                have B8' := hid (B.out.trans (hb8.mono HBW.out)); have HBW8 := hid (Nat.le_trans HBW.out hb8.size)
                clear hb8 HOF HOK B HBW
                go_wp2_with (first | (refine wpList_build_item rfl 29 33 _ rfl (bkV k j) rfl i Try.underlying29 hi hz0 hz1 ?_) | (at_builtin; go_must (refine wpList_append_c rfl _ _ 29 rfl b 33 i _ 5 72 Try.underlying29 hi hz0 hz1 hz2 rfl (by decide) (.slice s2.a s2.n s2.c) s2.n _ rfl (HOK8.out.below ((Below.refl _ _).alloc (Nat.le_refl _) (.cells (bkV k j).arr 33))).own _ 1 _ (bkV k j).cells rfl (RdC.new _ _ _ _ (bkV k j).cells (by simp [ItV.cells]) 5 rfl _ rfl) (by have := itm_one [bkV k j]; simpa [itmCells] using this) (fun hx => by cases hx) (by unfold maxLen; have := HS2.out; omega) (by have := HS2.out; omega) (by have := HBW8.out; simp; omega) ?_); go_loud (intro a3 c3 w9 hown hgw hfr; have HO9 := hid hown; have HG9 := hid hgw; have HF9 := hid hfr; clear hown hgw hfr)))
                have hch : Chg s2.v.ownBlock.toList w8 w9 := ((Chg.refl _ w8).alloc _).grown HG9.out (fun k hk => .inl (by rw [hk]; simp))
                have hin2 : ∀ q, q ∈ s2.v.ownBlock.toList → s2.v.ownBlock = some q := fun q hm => by
                  cases hv : s2.v.ownBlock with
                  | none => rw [hv] at hm; cases hm
                  | some y => rw [hv] at hm; simp at hm; rw [hm]
                have hok9 : OwnIt 33 w9 b b ⟨a3, s2.n + 1, c3⟩ (bkKidsV (bkF ls) k ++ bkGrpV k (j + 1)) := by
                  rw [bkGrpV_succ, ← List.append_assoc]
                  exact HOK8.out.app ((Below.refl _ _).alloc (Nat.le_refl _) _) (bkV k j) (ItV.ok.zero _ _ _ _) (by rw [bkV_foot]; simp) (by rw [bkV_foot]; simp) (by rw [itm_app]; simpa [itmCells] using HO9.out) HG9.out HF9.out
                have hof9 : OwnF w9 b ⟨a', sF.n + 1, c'⟩ (bkFlds (bkF ls) (k + 1)) := hch.owns HOF8.out (fun q hq hm => typ_ne HOK8.out.own HOF8.out (by decide) (hin2 q hm) hq)
                have hb9 : Below b w w9 := B8'.out.trans (hch.below (fun q hq => (HOK8.out.own.lt q (hin2 q hq)).1) HBW8.out)
                have H9 := hid (And.intro hof9 (And.intro hok9 (And.intro hb9 (Nat.le_trans HBW8.out hch.size))))
                have HS3 := hid HS2.out
                clear hch hin2 hok9 hof9 hb9
                go_roundw
                case rel =>
                  have hs2 := HS3.out
                  first
                    | exact ⟨j + 1, ⟨a3, s2.n + 1, c3⟩, by omega, by go_num, rfl, by simp only; omega, H9.out⟩
                    | ((repeat apply Exists.intro); exact ⟨⟨j + 1, ⟨a3, s2.n + 1, c3⟩, by omega, by go_num, rfl, by simp only; omega, H9.out⟩, rfl⟩)
                case measure => simp [intOf]; omega
              · obtain rfl : j = q := by omega
                go_wp2_with fail
                go_meet
                have hs2 := HS2.out
                exact ⟨s2, rfl, by omega, HOF.out, by rw [bkKidsV_succ, HFK.out]; exact HOK.out, B.out⟩
          case rest =>
            obtain ⟨sK2, rfl, hs2, hof, hok, hb⟩ := hcut
            have H9 := hid (And.intro hof (And.intro hok hb))
            have HS3 := hid hs2
            clear hof hok hb hs2 HOF7 HOK7 B7 HBW7
            go_wp2_with fail
            go_roundw
            case rel =>
              have hs2 := HS3.out
              have hsf := HSF7.out
              first
                | exact ⟨k + 1, ⟨a', sF.n + 1, c'⟩, sK2, by omega, by omega, by go_num, rfl, rfl, by simp only; omega, by omega, H9.out⟩
                | ((repeat apply Exists.intro); exact ⟨⟨k + 1, ⟨a', sF.n + 1, c'⟩, sK2, by omega, by omega, by go_num, rfl, rfl, by simp only; omega, by omega, H9.out⟩, rfl⟩)
            case measure => simp [intOf]; omega
        · obtain rfl : k = 8 := by omega
          have hsk := HSK.out
          have hmin : min nS 8 = 8 := by omega
          have HMN := hid hmin
          clear hmin
          go_wp2_with fail
          go_meet
          exact ⟨8, sF, sK, HMN.out.symm, rfl, rfl, HSF.out, by omega, HOF.out, HOK.out, B.out⟩
      · obtain rfl : k = nS := by omega
        have hsk := HSK.out
        have hmin : min k 8 = k := by omega
        have HMN := hid hmin
        clear hmin
        go_wp2_with fail
        go_meet
        exact ⟨k, sF, sK, HMN.out.symm, rfl, rfl, HSF.out, by omega, HOF.out, HOK.out, B.out⟩
  case rest =>
    obtain ⟨m, sF, sK, hm, rfl, rfl, hsf, hsk, hof, hok, hb⟩ := hcut
    have HOF := hid hof; have HOK := hid hok; have B := hid hb; have HSF := hid hsf
    have hm8 : m ≤ 8 := by omega
    have hmn : m ≤ nS := by omega
    clear hof hok hb hm hsf
    go_wp2_with fail
    refine (payOf_any 1 sK (bkKidsV (bkF ls) m) _ (HOK.out.sl (by omega)) HOK.out.ok).mono ?_
    rintro e w3 ⟨v3, rfl, hi3, ho3, -, hb3⟩
    have B3 := hid (B.out.trans (hb3.mono (by have := B.out.size; rw [HBE.out] at this; exact this)))
    have O3 := hid ho3; have I3 := hid hi3
    have HSF3 := hid (SlR.below (SlR.of_own HOF.out (by have := HSF.out; omega)) hb3)
    clear hi3 ho3 hb3 B HOK HOF
    go_wp2_with fail
    refine (parse_any v3 sF (bkFlds (bkF ls) m) _ O3.out HSF3.out).mono ?_
    intro e w4 hres
    have hp : parseV (bkFlds (bkF ls) m) v3.it = .ok (bkRows (bkF ls) m m) := by rw [I3.out, bkKidsV_it]; exact bkParse _ _ _
    unfold Parsed at hres
    rw [hp] at hres
    obtain ⟨so, sls, rv, rfl, hr2, hrv, hsn, hb4⟩ := hres
    have hbw3 : b ≤ w3.heap.size := by rw [← HBE.out]; exact B3.out.size
    have B4 := hid (B3.out.trans (hb4.mono hbw3))
    have HRV := hid hrv
    have hson : so.n = m := by rw [hr2.rlen hrv, bkRows_len]
    have HR4 := hid hr2
    have HSN := hid hsn
    obtain ⟨sa, sn, sc⟩ := so
    simp only at hson
    subst hson
    have hsfn := HSF.out
    obtain ⟨fa, fn, fc⟩ := sF
    simp only at hsfn
    subst hsfn
    clear hp hb4 hr2 hrv hsn B3 O3 I3 HSF3 HSF
    generalize w3.heap.size = z3 at *
    go_wp2_with fail
    refine (known15_any _).mono ?_
    rintro e w5 ⟨rfl, hb5⟩
    have HBW4 : Hid (b ≤ w4.heap.size) := by show _ ≤ _; rw [← HBE.out]; exact B4.out.size
    have B5 := hid (B4.out.trans (hb5.mono HBW4.out)); have HR5 := hid (HR4.out.below hb5)
    clear hb5 B4 HR4 HBW4
    go_wp2_with fail
    go_loopw [10] (fun y wr => ∃ k : Nat, k ≤ fn ∧ y = .int .i64 k ∧ Rows2 29 33 wr z3 z3 ⟨sa, fn, sc⟩ sls rv ∧ Below b w wr) (fun y _ => fn - (intOf y).toNat)
    case atStart => exact ⟨0, Nat.zero_le _, rfl, HR5.out, B5.out⟩
    case round =>
      clear HR5 B5
      obtain ⟨k, hk, rfl, hr, hb⟩ := hrel
      have HR := hid hr; have B := hid hb
      clear hr hb
      by_cases hlt : k < fn
      · obtain ⟨sl, l, g, hsl, hl, hli, hol, hln, hg, hc0, -⟩ := HR.out.at HRV.out (k := k) (r := bkGrp k (bkF ls k)) (by rw [bkRows_get _ _ _ _ hlt, if_pos hlt])
        simp only at hg
        subst hg
        obtain ⟨bS, oS, z, haS, hz, hzb, hcS⟩ := Ints.get HS.out (show k < nS by omega)
        have hbel : Below w.heap.size w wr := by rw [HBE.out]; exact B.out
        have CZ := hid (cell_later hbel hcS)
        subst haS
        obtain ⟨q, hq⟩ : ∃ q, pickN z 4 = q := ⟨_, rfl⟩
        have HPE : Hid (pick z 4 = (q : Int)) := by show _ = _; rw [← hq]; exact pickN_eq z 4 (by omega)
        have hq4 : q < 4 := by rw [← hq]; exact pickN_lt z 4 (by omega)
        have hfk : bkF ls k = q := by unfold bkF; rw [List.getD_eq_getElem?_getD, hz]; exact hq
        rw [hfk] at hli hln
        have hlnq : sl.n = q := by rw [hln]; simp [bkGrp]
        have HSL := hid hsl; have HLL := hid hl
        obtain ⟨xa, xn, xc⟩ := sl
        simp only at hlnq hc0
        subst hlnq
        have C0 := hid hc0; have HLI := hid hli
        clear hbel hcS hz hq hfk hc0 hli hln hol hsl hl
        have hkS : k < nS := by omega
        go_upto_region 18 with (fail)
        refine wp_region_each 11 [.eq (.slice (some ⟨g, 0, none⟩) fn sc), .eq (.int .i64 (k : Int)), .eq (.pointer (some ⟨g, k, none⟩)), .eq (.slice xa xn xc), .eq (.int .i64 (xn : Int)), .eq (.slice (some ⟨bS, oS, none⟩) nS cS), .eq (.int .i64 (k : Int)), .eq (.pointer (some ⟨bS, oS + k, none⟩)), .eq (.int .i64 z), .eq (.int .i64 (xn : Int)), .eq (.bool false)] (by kernel_rfl) (by kernel_rfl) (by kernel_rfl) (by kernel_rfl) ?_ ?_
        · as_aux_lemma =>
            refine each_c (o' := _) ?_ (each_c (o' := _) ?_ (each_c (o' := _) ?_ (each_c (o' := _) ?_ (each_c (o' := _) ?_ (each_c (o' := _) ?_ (each_c (o' := _) ?_ (each_c (o' := _) ?_ (each_c (o' := _) ?_ (each_c (o' := _) ?_ (each_c (o' := _) ?_ (each_n)))))))))))
            -- 0: move t8
            · intro w1 hg Ar seen
              have s8 := seen.slot 8 (v := .slice (some ⟨g, 0, none⟩) fn sc) (by kernel_rfl) rfl
              refine does_plain rfl fun K Q' hK => ?_
              go_simp; exact hK _ _ (Grow.refl _) rfl
            -- 1: move t10
            · intro w1 hg Ar seen
              have s10 := seen.slot 10 (v := .int .i64 (k : Int)) (by kernel_rfl) rfl
              refine does_plain rfl fun K Q' hK => ?_
              go_simp; exact hK _ _ (Grow.refl _) rfl
            -- 2: indexAddr 34 t78 t79
            · intro w1 hg Ar seen
              obtain ⟨v0, e0, h0⟩ := seen.dep 0 (d := 78) (by kernel_rfl) (by kernel_rfl) rfl
              rcases h0 with rfl
              obtain ⟨v1, e1, h1⟩ := seen.dep 1 (d := 79) (by kernel_rfl) (by kernel_rfl) rfl
              rcases h1 with rfl
              refine does_plain rfl fun K Q' hK => ?_
              go_simp; exact hK _ _ (Grow.refl _) rfl
            -- 3: load 29 t80
            · intro w1 hg Ar seen
              obtain ⟨v2, e2, h2⟩ := seen.dep 2 (d := 80) (by kernel_rfl) (by kernel_rfl) rfl
              rcases h2 with rfl
              refine does_plain rfl fun K Q' hK => ?_
              have hc := cell_later hg C0.out
              go_simp; exact hK _ _ (Grow.refl _) rfl
            -- 4: call len [t81] T[29]
            · intro w1 hg Ar seen
              obtain ⟨v3, e3, h3⟩ := seen.dep 3 (d := 81) (by kernel_rfl) (by kernel_rfl) rfl
              rcases h3 with rfl
              refine does_plain rfl fun K Q' hK => ?_
              go_simp; exact hK _ _ (Grow.refl _) rfl
            -- 5: move t0
            · intro w1 hg Ar seen
              have s0 := seen.slot 0 (v := .slice (some ⟨bS, oS, none⟩) nS cS) (by kernel_rfl) rfl
              refine does_plain rfl fun K Q' hK => ?_
              go_simp; exact hK _ _ (Grow.refl _) rfl
            -- 6: move t10
            · intro w1 hg Ar seen
              have s10 := seen.slot 10 (v := .int .i64 (k : Int)) (by kernel_rfl) rfl
              refine does_plain rfl fun K Q' hK => ?_
              go_simp; exact hK _ _ (Grow.refl _) rfl
            -- 7: indexAddr 46 t83 t84
            · intro w1 hg Ar seen
              obtain ⟨v5, e5, h5⟩ := seen.dep 5 (d := 83) (by kernel_rfl) (by kernel_rfl) rfl
              rcases h5 with rfl
              obtain ⟨v6, e6, h6⟩ := seen.dep 6 (d := 84) (by kernel_rfl) (by kernel_rfl) rfl
              rcases h6 with rfl
              refine does_plain rfl fun K Q' hK => ?_
              go_simp; exact hK _ _ (Grow.refl _) rfl
            -- 8: load 3 t85
            · intro w1 hg Ar seen
              obtain ⟨v7, e7, h7⟩ := seen.dep 7 (d := 85) (by kernel_rfl) (by kernel_rfl) rfl
              rcases h7 with rfl
              refine does_plain rfl fun K Q' hK => ?_
              have hc := cell_later hg CZ.out
              go_simp; exact hK _ _ (Grow.refl _) rfl
            -- 9: call fn7<locksmithhand.Pick> [t86, 4:i64] T[3, 3]
            · intro w1 hg Ar seen
              obtain ⟨v8, e8, h8⟩ := seen.dep 8 (d := 86) (by kernel_rfl) (by kernel_rfl) rfl
              rcases h8 with rfl
              refine does_plain rfl fun K Q' hK => ?_
              go_simp
              refine (pick_any z 4 _ (by omega) (by omega)).mono ?_
              rintro e u ⟨rfl, rfl⟩
              rw [HPE.out]
              exact hK _ _ (Grow.refl _) rfl
            -- 10: binOp BinOp.neq 3 t82 t87 3
            · intro w1 hg Ar seen
              obtain ⟨v4, e4, h4⟩ := seen.dep 4 (d := 82) (by kernel_rfl) (by kernel_rfl) rfl
              rcases h4 with rfl
              obtain ⟨v9, e9, h9⟩ := seen.dep 9 (d := 87) (by kernel_rfl) (by kernel_rfl) rfl
              rcases h9 with rfl
              refine does_plain rfl fun K Q' hK => ?_
              go_simp; exact hK _ _ (Grow.refl _) rfl
        intro w1 hg
        refine upon_w' (js := [0, 1, 2, 3, 4, 5, 6, 7, 8, 9, 10]) (by rfl) ?_
        refine upon_c (x := some 78) (by kernel_rfl) rfl fun v0 h0 => ?_
        rcases h0 with rfl
        refine upon_c (x := some 79) (by kernel_rfl) rfl fun v1 h1 => ?_
        rcases h1 with rfl
        refine upon_c (x := some 80) (by kernel_rfl) rfl fun v2 h2 => ?_
        rcases h2 with rfl
        refine upon_c (x := some 81) (by kernel_rfl) rfl fun v3 h3 => ?_
        rcases h3 with rfl
        refine upon_c (x := some 82) (by kernel_rfl) rfl fun v4 h4 => ?_
        rcases h4 with rfl
        refine upon_c (x := some 83) (by kernel_rfl) rfl fun v5 h5 => ?_
        rcases h5 with rfl
        refine upon_c (x := some 84) (by kernel_rfl) rfl fun v6 h6 => ?_
        rcases h6 with rfl
        refine upon_c (x := some 85) (by kernel_rfl) rfl fun v7 h7 => ?_
        rcases h7 with rfl
        refine upon_c (x := some 86) (by kernel_rfl) rfl fun v8 h8 => ?_
        rcases h8 with rfl
        refine upon_c (x := some 87) (by kernel_rfl) rfl fun v9 h9 => ?_
        rcases h9 with rfl
        refine upon_c (x := some 88) (by kernel_rfl) rfl fun v10 h10 => ?_
        rcases h10 with rfl
        refine upon_n ?_
        go_simp
        go_simp
        have HBW : Hid (b ≤ wr.heap.size) := by show _ ≤ _; rw [← HBE.out]; exact B.out.size
        have HR1 := hid (HR.out.below hg); have B1 := hid (B.out.trans (hg.mono HBW.out)); have C1 := hid (cell_later hg C0.out)
        clear hg HR B C0 CZ HPE hzb HBW
        go_upto_block 6 with (fail)
        refine wp_last' (fun K2 hK2 => ?_)
        go_cut [11] (fun _ wx => Rows2 29 33 wx z3 z3 ⟨some ⟨g, 0, none⟩, fn, sc⟩ sls rv ∧ Below b w wx)
        case first =>
          have hc1 := C1.out
          go_wp2_with fail
          clear hc1
          go_loopw [11] (fun y wr => ∃ j : Nat, j ≤ xn ∧ y = .int .i64 j ∧ Rows2 29 33 wr z3 z3 ⟨some ⟨g, 0, none⟩, fn, sc⟩ sls rv ∧ Below b w wr ∧ wr.cell? ⟨g, k, none⟩ = some (.slice xa xn xc)) (fun y _ => xn - (intOf y).toNat)
          case atStart => exact ⟨0, Nat.zero_le _, rfl, HR1.out, B1.out, C1.out⟩
          case round =>
            clear HR1 B1 C1
            obtain ⟨j, hj, rfl, hr, hb, hc1⟩ := hrel
            have HR := hid hr; have B := hid hb; have C1 := hid hc1
            clear hr hb
            by_cases hjq : j < xn
            · have hol := HR.out.each k _ l HSL.out HLL.out
              obtain ⟨gx, ox, x, hax, hx, hrow⟩ := (hol.sl (by simp only; omega)).row (k := j) (by simp only; exact hjq)
              simp only at hax
              subst hax
              have hxi : x.int = 10 * (k : Int) + (j : Int) := by
                have h1 := congrArg (fun l => l[j]?) HLI.out
                simp only [List.getElem?_map, hx, Option.map_some, bkGrp, List.getElem?_range hjq, Option.some.injEq] at h1
                rw [← it_int, h1]; rfl
              have hc2 := range_cell hrow 2 (v := .int .i64 x.int) rfl
              rw [hxi] at hc2
              clear hol hx hrow hxi
              go_wp2_with fail
              go_roundw
              case rel =>
                first
                  | exact ⟨j + 1, by omega, by go_num, HR.out, B.out, C1.out⟩
                  | ((repeat apply Exists.intro); exact ⟨⟨j + 1, by omega, by go_num, HR.out, B.out, C1.out⟩, rfl⟩)
              case measure => simp [intOf]; omega
            · obtain rfl : j = xn := by omega
              go_wp2_with fail
              go_meet
              exact ⟨HR.out, B.out⟩
        case rest =>
          obtain ⟨hr, hb⟩ := hcut
          have HR := hid hr; have B := hid hb
          clear hr hb HR1 B1 C1
          go_wp2_with fail
          go_roundw
          case rel =>
            first
              | exact ⟨k + 1, by omega, by go_num, HR.out, B.out⟩
              | ((repeat apply Exists.intro); exact ⟨⟨k + 1, by omega, by go_num, HR.out, B.out⟩, rfl⟩)
          case measure => simp [intOf]; omega
      · obtain rfl : k = fn := by omega
        go_wp2_with fail
        go_ret
        exact ⟨rfl, B.out⟩
end Go.Proofs.Ytpcbofgjnbdfhaa
