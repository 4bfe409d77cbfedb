/- object.list. -/
import Derived.Test.YtdlkobmlnpijgaaDoorObjRd
namespace Go.Proofs.YtdlkobmlnpijgaaDoor
open Go.RowKit
set_option linter.unusedVariables false
set_option linter.unusedSimpArgs false
set_option maxRecDepth 1000000
set_option maxHeartbeats 3200000
theorem pI1_in (s : PS) : 0 ≤ (pI 1 s).1 ∧ (pI 1 s).1 ≤ 255 := by
  have hl : (taken s.1 s.2 1).length ≤ 1 := by unfold taken; split <;> simp; omega
  have : num (taken s.1 s.2 1) < 256 := by
    generalize taken s.1 s.2 1 = l at *
    match l, hl with
    | [], _ => unfold num; simp
    | [c], _ => have := c.toNat_lt; unfold num; simp; omega
  unfold pI
  simp only
  rw [asInt_small _ (by omega)]
  omega
theorem many_go {α : Type} {one : PS → α × PS} {k : Nat} {p : PS} (h : p.2 = false) : many one (k + 1) p = ((one p).1 :: (many one k (one p).2).1, (many one k (one p).2).2) := by
  rw [many, h]; rfl
theorem many_stop {α : Type} {one : PS → α × PS} {k : Nat} {p : PS} (h : p.2 = true) : many one k p = ([], p) := by
  cases k with
  | zero => rfl
  | succ k => rw [many, h]; rfl
theorem listS_any (p : Nat) (s : PS) (F : List Nat) (w : World) (h : RdS 121 w p s F) (hF : ∀ k ∈ F, k < w.heap.size) :
    Calls Tryd.prog 42 #[.pointer (some ⟨p, 0, none⟩), .func (.func 37) #[.agg #[.pointer (some ⟨p, 0, none⟩)]] #[]] w fun e w' => ∃ a n c, e = .returned (.slice a n c) ∧ n ≤ 255 ∧ w'.ownsRow w.heap.size 9 1 (.slice a n c) n (((listP pT s).1).map Value.string) ∧ Chg [p] w w' ∧ RdS 121 w' p (listP pT s).2 F := by
  obtain ⟨i, hi, hz0, hz1, hz2⟩ := info_parts oInfoS
  have H := hid h; have HF := hid hF
  have HP := hid h.lt
  clear h hF
  go_enter Tryd.func42, Tryd.ntmps42
  go_wp2_with fail
  refine (soU8_any p s F _ H.out).mono ?_
  rintro e W2 ⟨rfl, hc, hr⟩
  dsimp only
  have hin := pI1_in s
  have HLP : Hid (listP pT s = many pT (pI 1 s).1.toNat (pI 1 s).2) := rfl
  generalize (pI 1 s).1 = kk at *
  generalize (pI 1 s).2 = s1 at *
  obtain ⟨k0, rfl⟩ := Int.eq_ofNat_of_zero_le hin.1
  have HK0 : Hid (k0 ≤ 255) := by show _ ≤ _; omega
  have HS0 := hid hr; have HC0 := hid hc
  clear hin hc hr H
  go_wp2_with fail
  go_loopw [5, 6] (fun x y wr => ∃ (k : Nat) (st : PS) (xs : List ByteArray) (a : Option Addr) (m c : Nat), y = .int .i64 k ∧ x = .slice a m c ∧ m + k ≤ 255 ∧ wr.ownsRow w.heap.size 9 1 (.slice a m c) m ((xs).map Value.string) ∧ RdS 121 wr p st F ∧ Chg [p] w wr ∧ many pT k0 s1 = (xs ++ (many pT k st).1, (many pT k st).2)) (fun _ y _ => (intOf y).toNat)
  case atStart => exact ⟨k0, s1, [], none, 0, 0, rfl, rfl, by have := HK0.out; omega, World.ownsRow_nil _ _ _ _, HS0.out, HC0.out, rfl⟩
  case round =>
    obtain ⟨k, st, xs, a, m, c, rfl, rfl, hm, hown, hs, hc, hmany⟩ := hrel
    clear HS0 HC0
    have HM := hid hm; have HOW := hid hown; have HS := hid hs; have HC := hid hc; have HMY := hid hmany
    clear hm hown hs hc hmany
    rcases k with _ | k
    · go_wp2_with fail
      go_ret
      refine ⟨a, m, c, rfl, by have := HM.out; omega, ?_, HC.out, ?_⟩
      · have h := HOW.out
        have e : (listP pT s).1 = xs := by rw [HLP.out, show ((k0 : Nat) : Int).toNat = k0 from rfl, HMY.out]; simp [many]
        rw [e]; exact h
      · have e : (listP pT s).2 = st := by rw [HLP.out, show ((k0 : Nat) : Int).toNat = k0 from rfl, HMY.out]; simp [many]
        rw [e]; exact HS.out
    · have hk1 : (0 : Int) < ((k : Int) + 1) := by omega
      go_wp2_with fail
      refine (soLack_any p st F _ HS.out).mono ?_
      rintro e u ⟨rfl, rfl⟩
      dsimp only
      cases hlk : st.2 with
      | true =>
        have HLK := hid hlk
        clear hlk
        go_wp2_with fail
        go_ret
        refine ⟨a, m, c, rfl, by have := HM.out; omega, ?_, HC.out, ?_⟩
        · have h := HOW.out
          have e : (listP pT s).1 = xs := by rw [HLP.out, show ((k0 : Nat) : Int).toNat = k0 from rfl, HMY.out, many_stop HLK.out]; simp
          rw [e]; exact h
        · have e : (listP pT s).2 = st := by rw [HLP.out, show ((k0 : Nat) : Int).toNat = k0 from rfl, HMY.out, many_stop HLK.out]
          rw [e]; exact HS.out
      | false =>
        have HLK := hid hlk
        clear hlk
        go_wp2_with fail
        refine (ptext_any p st F _ HS.out).mono ?_
        rintro e w2 ⟨rfl, hc2, hr2⟩
        dsimp only
        have hpb : ∀ q, (Value.slice a m c).ownBlock = some q → q ∉ [p] := fun q hq hm => by
          have h1 := (HOW.out.lt q hq).1
          have h2 := HP.out
          rw [List.mem_singleton.1 hm] at h1
          omega
        have HO2 := hid (hc2.owns HOW.out hpb)
        have HC2 := hid (HC.out.trans hc2 (fun q hq => .inl hq)); have HR2 := hid hr2
        have HPB := hid hpb
        clear hc2 hr2 HOW HC HS hpb
        have hms : m + 1 + k ≤ 255 := by have := HM.out; omega
        go_wp2_with (at_builtin
                     go_must (refine wpList_append_c rfl _ _ 29 rfl w.heap.size 9 i _ 1 16 Tryd.underlying29 hi hz0 hz1 hz2 rfl (by decide) (.slice a m c) m _ rfl (((Chg.refl [] _).alloc _).owns HO2.out (fun k _ hm => by cases hm)) _ 1 _ [.string (pT st).1] rfl (RdC.new _ _ _ _ [.string (pT st).1] rfl 1 rfl _ (by simp)) (strs_one [(pT st).1]) (fun hx => by cases hx) (by unfold maxLen; omega) (by omega) (by have := HC2.out.size; simp; omega) ?_)
                     intro a' c' w3 hown hgw hfr
                     have HO3 := hid hown; have HG4 := hid hgw; have HFR := hid hfr; clear hown hgw hfr)
        have HMY2 : Hid (many pT k0 s1 = ((xs ++ [(pT st).1]) ++ (many pT k (pT st).2).1, (many pT k (pT st).2).2)) := by
          show _ = _
          rw [HMY.out, many_go HLK.out]
          simp
        have HC3 := hid ((HC2.out.alloc _).grown HG4.out (fun q hq => .inr (HO2.out.lt q hq).1))
        have HR3 := hid (HR2.out.keep (Chg.grown ((Chg.refl (Value.slice a m c).ownBlock.toList w2).alloc _) HG4.out (fun q hq => .inl (by simp [hq]))) (fun q hq hm => by
          have h1 := (HO2.out.lt q (by simpa using hm)).1
          have h2 := HF.out q hq
          omega))
        have HO4 := hid (show w3.ownsRow w.heap.size 9 1 (.slice a' (m + 1) c') (m + 1) ((xs ++ [(pT st).1]).map Value.string) from by rw [List.map_append]; exact HO3.out)
        clear HMY HLK HO3 HG4 HFR HO2 HC2 HR2
        go_roundw
        case rel =>
          first
            | exact ⟨k, _, _, a', m + 1, c', by go_num, rfl, by omega, HO4.out, HR3.out, HC3.out, HMY2.out⟩
            | ((repeat apply Exists.intro); exact ⟨⟨k, _, _, a', m + 1, c', by go_num, rfl, by omega, HO4.out, HR3.out, HC3.out, HMY2.out⟩, rfl⟩)
            | ((repeat apply Exists.intro); exact ⟨⟨k, _, _, a', m + 1, c', by go_num, rfl, by omega, HO4.out, HR3.out, HC3.out, HMY2.out⟩, rfl, rfl⟩)
        case measure => (simp [intOf] <;> omega)
theorem listL_any (p : Nat) (s : PS) (F : List Nat) (w : World) (h : RdS 121 w p s F) (hF : ∀ k ∈ F, k < w.heap.size) :
    Calls Tryd.prog 43 #[.pointer (some ⟨p, 0, none⟩), .func (.func 44) #[.agg #[.pointer (some ⟨p, 0, none⟩)]] #[]] w fun e w' => ∃ a n c, e = .returned (.slice a n c) ∧ n ≤ 255 ∧ w'.ownsRow w.heap.size 56 2 (.slice a n c) n (linkCells ((listP linkP s).1)) ∧ Chg [p] w w' ∧ RdS 121 w' p (listP linkP s).2 F := by
  obtain ⟨i, hi, hz0, hz1, hz2⟩ := info_parts oInfoL
  have H := hid h; have HF := hid hF
  have HP := hid h.lt
  clear h hF
  go_enter Tryd.func43, Tryd.ntmps43
  go_wp2_with fail
  refine (soU8_any p s F _ H.out).mono ?_
  rintro e W2 ⟨rfl, hc, hr⟩
  dsimp only
  have hin := pI1_in s
  have HLP : Hid (listP linkP s = many linkP (pI 1 s).1.toNat (pI 1 s).2) := rfl
  generalize (pI 1 s).1 = kk at *
  generalize (pI 1 s).2 = s1 at *
  obtain ⟨k0, rfl⟩ := Int.eq_ofNat_of_zero_le hin.1
  have HK0 : Hid (k0 ≤ 255) := by show _ ≤ _; omega
  have HS0 := hid hr; have HC0 := hid hc
  clear hin hc hr H
  go_wp2_with fail
  go_loopw [5, 6] (fun x y wr => ∃ (k : Nat) (st : PS) (xs : List (Int × ByteArray)) (a : Option Addr) (m c : Nat), y = .int .i64 k ∧ x = .slice a m c ∧ m + k ≤ 255 ∧ wr.ownsRow w.heap.size 56 2 (.slice a m c) m (linkCells (xs)) ∧ RdS 121 wr p st F ∧ Chg [p] w wr ∧ many linkP k0 s1 = (xs ++ (many linkP k st).1, (many linkP k st).2)) (fun _ y _ => (intOf y).toNat)
  case atStart => exact ⟨k0, s1, [], none, 0, 0, rfl, rfl, by have := HK0.out; omega, World.ownsRow_nil _ _ _ _, HS0.out, HC0.out, rfl⟩
  case round =>
    obtain ⟨k, st, xs, a, m, c, rfl, rfl, hm, hown, hs, hc, hmany⟩ := hrel
    clear HS0 HC0
    have HM := hid hm; have HOW := hid hown; have HS := hid hs; have HC := hid hc; have HMY := hid hmany
    clear hm hown hs hc hmany
    rcases k with _ | k
    · go_wp2_with fail
      go_ret
      refine ⟨a, m, c, rfl, by have := HM.out; omega, ?_, HC.out, ?_⟩
      · have h := HOW.out
        have e : (listP linkP s).1 = xs := by rw [HLP.out, show ((k0 : Nat) : Int).toNat = k0 from rfl, HMY.out]; simp [many]
        rw [e]; exact h
      · have e : (listP linkP s).2 = st := by rw [HLP.out, show ((k0 : Nat) : Int).toNat = k0 from rfl, HMY.out]; simp [many]
        rw [e]; exact HS.out
    · have hk1 : (0 : Int) < ((k : Int) + 1) := by omega
      go_wp2_with fail
      refine (soLack_any p st F _ HS.out).mono ?_
      rintro e u ⟨rfl, rfl⟩
      dsimp only
      cases hlk : st.2 with
      | true =>
        have HLK := hid hlk
        clear hlk
        go_wp2_with fail
        go_ret
        refine ⟨a, m, c, rfl, by have := HM.out; omega, ?_, HC.out, ?_⟩
        · have h := HOW.out
          have e : (listP linkP s).1 = xs := by rw [HLP.out, show ((k0 : Nat) : Int).toNat = k0 from rfl, HMY.out, many_stop HLK.out]; simp
          rw [e]; exact h
        · have e : (listP linkP s).2 = st := by rw [HLP.out, show ((k0 : Nat) : Int).toNat = k0 from rfl, HMY.out, many_stop HLK.out]
          rw [e]; exact HS.out
      | false =>
        have HLK := hid hlk
        clear hlk
        go_wp2_with fail
        refine (plink_any p st F _ HS.out (fun k hk => Nat.lt_of_lt_of_le (HF.out k hk) HC.out.size)).mono ?_
        rintro e w2 ⟨rfl, hc2, hr2⟩
        dsimp only
        have hpb : ∀ q, (Value.slice a m c).ownBlock = some q → q ∉ [p] := fun q hq hm => by
          have h1 := (HOW.out.lt q hq).1
          have h2 := HP.out
          rw [List.mem_singleton.1 hm] at h1
          omega
        have HO2 := hid (hc2.owns HOW.out hpb)
        have HC2 := hid (HC.out.trans hc2 (fun q hq => .inl hq)); have HR2 := hid hr2
        have HPB := hid hpb
        clear hc2 hr2 HOW HC HS hpb
        have hms : m + 1 + k ≤ 255 := by have := HM.out; omega
        go_wp2_with (at_builtin
                     go_must (refine wpList_append_c rfl _ _ 30 rfl w.heap.size 56 i _ 2 24 Tryd.underlying30 hi hz0 hz1 hz2 rfl (by decide) (.slice a m c) m _ rfl (((Chg.refl [] _).alloc _).owns HO2.out (fun k _ hm => by cases hm)) _ 1 _ [.int .i64 (linkP st).1.1, .string (linkP st).1.2] rfl (RdC.new _ _ _ _ [.int .i64 (linkP st).1.1, .string (linkP st).1.2] rfl 2 rfl _ (by simp)) (link_one [(linkP st).1]) (fun hx => by cases hx) (by unfold maxLen; omega) (by omega) (by have := HC2.out.size; simp; omega) ?_)
                     intro a' c' w3 hown hgw hfr
                     have HO3 := hid hown; have HG4 := hid hgw; have HFR := hid hfr; clear hown hgw hfr)
        have HMY2 : Hid (many linkP k0 s1 = ((xs ++ [(linkP st).1]) ++ (many linkP k (linkP st).2).1, (many linkP k (linkP st).2).2)) := by
          show _ = _
          rw [HMY.out, many_go HLK.out]
          simp
        have HC3 := hid ((HC2.out.alloc _).grown HG4.out (fun q hq => .inr (HO2.out.lt q hq).1))
        have HR3 := hid (HR2.out.keep (Chg.grown ((Chg.refl (Value.slice a m c).ownBlock.toList w2).alloc _) HG4.out (fun q hq => .inl (by simp [hq]))) (fun q hq hm => by
          have h1 := (HO2.out.lt q (by simpa using hm)).1
          have h2 := HF.out q hq
          omega))
        have HO4 := hid (show w3.ownsRow w.heap.size 56 2 (.slice a' (m + 1) c') (m + 1) (linkCells (xs ++ [(linkP st).1])) from by unfold linkCells; rw [List.flatMap_append]; exact HO3.out)
        clear HMY HLK HO3 HG4 HFR HO2 HC2 HR2
        go_roundw
        case rel =>
          first
            | exact ⟨k, _, _, a', m + 1, c', by go_num, rfl, by omega, HO4.out, HR3.out, HC3.out, HMY2.out⟩
            | ((repeat apply Exists.intro); exact ⟨⟨k, _, _, a', m + 1, c', by go_num, rfl, by omega, HO4.out, HR3.out, HC3.out, HMY2.out⟩, rfl⟩)
            | ((repeat apply Exists.intro); exact ⟨⟨k, _, _, a', m + 1, c', by go_num, rfl, by omega, HO4.out, HR3.out, HC3.out, HMY2.out⟩, rfl, rfl⟩)
        case measure => (simp [intOf] <;> omega)
theorem listC_any (p : Nat) (s : PS) (F : List Nat) (w : World) (h : RdS 121 w p s F) (hF : ∀ k ∈ F, k < w.heap.size) :
    Calls Tryd.prog 45 #[.pointer (some ⟨p, 0, none⟩), .func (.func 46) #[.agg #[.pointer (some ⟨p, 0, none⟩)]] #[]] w fun e w' => ∃ a n c, e = .returned (.slice a n c) ∧ n ≤ 255 ∧ w'.ownsRow w.heap.size 58 2 (.slice a n c) n (custCells ((listP custP s).1)) ∧ Chg [p] w w' ∧ RdS 121 w' p (listP custP s).2 F := by
  obtain ⟨i, hi, hz0, hz1, hz2⟩ := info_parts oInfoC
  have H := hid h; have HF := hid hF
  have HP := hid h.lt
  clear h hF
  go_enter Tryd.func45, Tryd.ntmps45
  go_wp2_with fail
  refine (soU8_any p s F _ H.out).mono ?_
  rintro e W2 ⟨rfl, hc, hr⟩
  dsimp only
  have hin := pI1_in s
  have HLP : Hid (listP custP s = many custP (pI 1 s).1.toNat (pI 1 s).2) := rfl
  generalize (pI 1 s).1 = kk at *
  generalize (pI 1 s).2 = s1 at *
  obtain ⟨k0, rfl⟩ := Int.eq_ofNat_of_zero_le hin.1
  have HK0 : Hid (k0 ≤ 255) := by show _ ≤ _; omega
  have HS0 := hid hr; have HC0 := hid hc
  clear hin hc hr H
  go_wp2_with fail
  go_loopw [5, 6] (fun x y wr => ∃ (k : Nat) (st : PS) (xs : List (ByteArray × ByteArray)) (a : Option Addr) (m c : Nat), y = .int .i64 k ∧ x = .slice a m c ∧ m + k ≤ 255 ∧ wr.ownsRow w.heap.size 58 2 (.slice a m c) m (custCells (xs)) ∧ RdS 121 wr p st F ∧ Chg [p] w wr ∧ many custP k0 s1 = (xs ++ (many custP k st).1, (many custP k st).2)) (fun _ y _ => (intOf y).toNat)
  case atStart => exact ⟨k0, s1, [], none, 0, 0, rfl, rfl, by have := HK0.out; omega, World.ownsRow_nil _ _ _ _, HS0.out, HC0.out, rfl⟩
  case round =>
    obtain ⟨k, st, xs, a, m, c, rfl, rfl, hm, hown, hs, hc, hmany⟩ := hrel
    clear HS0 HC0
    have HM := hid hm; have HOW := hid hown; have HS := hid hs; have HC := hid hc; have HMY := hid hmany
    clear hm hown hs hc hmany
    rcases k with _ | k
    · go_wp2_with fail
      go_ret
      refine ⟨a, m, c, rfl, by have := HM.out; omega, ?_, HC.out, ?_⟩
      · have h := HOW.out
        have e : (listP custP s).1 = xs := by rw [HLP.out, show ((k0 : Nat) : Int).toNat = k0 from rfl, HMY.out]; simp [many]
        rw [e]; exact h
      · have e : (listP custP s).2 = st := by rw [HLP.out, show ((k0 : Nat) : Int).toNat = k0 from rfl, HMY.out]; simp [many]
        rw [e]; exact HS.out
    · have hk1 : (0 : Int) < ((k : Int) + 1) := by omega
      go_wp2_with fail
      refine (soLack_any p st F _ HS.out).mono ?_
      rintro e u ⟨rfl, rfl⟩
      dsimp only
      cases hlk : st.2 with
      | true =>
        have HLK := hid hlk
        clear hlk
        go_wp2_with fail
        go_ret
        refine ⟨a, m, c, rfl, by have := HM.out; omega, ?_, HC.out, ?_⟩
        · have h := HOW.out
          have e : (listP custP s).1 = xs := by rw [HLP.out, show ((k0 : Nat) : Int).toNat = k0 from rfl, HMY.out, many_stop HLK.out]; simp
          rw [e]; exact h
        · have e : (listP custP s).2 = st := by rw [HLP.out, show ((k0 : Nat) : Int).toNat = k0 from rfl, HMY.out, many_stop HLK.out]
          rw [e]; exact HS.out
      | false =>
        have HLK := hid hlk
        clear hlk
        go_wp2_with fail
        refine (pcustom_any p st F _ HS.out (fun k hk => Nat.lt_of_lt_of_le (HF.out k hk) HC.out.size)).mono ?_
        rintro e w2 ⟨rfl, hc2, hr2⟩
        dsimp only
        have hpb : ∀ q, (Value.slice a m c).ownBlock = some q → q ∉ [p] := fun q hq hm => by
          have h1 := (HOW.out.lt q hq).1
          have h2 := HP.out
          rw [List.mem_singleton.1 hm] at h1
          omega
        have HO2 := hid (hc2.owns HOW.out hpb)
        have HC2 := hid (HC.out.trans hc2 (fun q hq => .inl hq)); have HR2 := hid hr2
        have HPB := hid hpb
        clear hc2 hr2 HOW HC HS hpb
        have hms : m + 1 + k ≤ 255 := by have := HM.out; omega
        go_wp2_with (at_builtin
                     go_must (refine wpList_append_c rfl _ _ 31 rfl w.heap.size 58 i _ 2 32 Tryd.underlying31 hi hz0 hz1 hz2 rfl (by decide) (.slice a m c) m _ rfl (((Chg.refl [] _).alloc _).owns HO2.out (fun k _ hm => by cases hm)) _ 1 _ [.string (custP st).1.1, .string (custP st).1.2] rfl (RdC.new _ _ _ _ [.string (custP st).1.1, .string (custP st).1.2] rfl 2 rfl _ (by simp)) (cust_one [(custP st).1]) (fun hx => by cases hx) (by unfold maxLen; omega) (by omega) (by have := HC2.out.size; simp; omega) ?_)
                     intro a' c' w3 hown hgw hfr
                     have HO3 := hid hown; have HG4 := hid hgw; have HFR := hid hfr; clear hown hgw hfr)
        have HMY2 : Hid (many custP k0 s1 = ((xs ++ [(custP st).1]) ++ (many custP k (custP st).2).1, (many custP k (custP st).2).2)) := by
          show _ = _
          rw [HMY.out, many_go HLK.out]
          simp
        have HC3 := hid ((HC2.out.alloc _).grown HG4.out (fun q hq => .inr (HO2.out.lt q hq).1))
        have HR3 := hid (HR2.out.keep (Chg.grown ((Chg.refl (Value.slice a m c).ownBlock.toList w2).alloc _) HG4.out (fun q hq => .inl (by simp [hq]))) (fun q hq hm => by
          have h1 := (HO2.out.lt q (by simpa using hm)).1
          have h2 := HF.out q hq
          omega))
        have HO4 := hid (show w3.ownsRow w.heap.size 58 2 (.slice a' (m + 1) c') (m + 1) (custCells (xs ++ [(custP st).1])) from by unfold custCells; rw [List.flatMap_append]; exact HO3.out)
        clear HMY HLK HO3 HG4 HFR HO2 HC2 HR2
        go_roundw
        case rel =>
          first
            | exact ⟨k, _, _, a', m + 1, c', by go_num, rfl, by omega, HO4.out, HR3.out, HC3.out, HMY2.out⟩
            | ((repeat apply Exists.intro); exact ⟨⟨k, _, _, a', m + 1, c', by go_num, rfl, by omega, HO4.out, HR3.out, HC3.out, HMY2.out⟩, rfl⟩)
            | ((repeat apply Exists.intro); exact ⟨⟨k, _, _, a', m + 1, c', by go_num, rfl, by omega, HO4.out, HR3.out, HC3.out, HMY2.out⟩, rfl, rfl⟩)
        case measure => (simp [intOf] <;> omega)
end Go.Proofs.YtdlkobmlnpijgaaDoor
