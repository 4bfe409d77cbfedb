/- The reference's lay. -/
import Derived.Test.YtmpajhacigjloaaDoorRefT4
namespace Go.Proofs.YtmpajhacigjloaaDoor
open Go.RowKit
set_option linter.unusedVariables false
set_option linter.unusedSimpArgs false
set_option maxRecDepth 100000
set_option maxHeartbeats 3200000
structure LyR (w W : World) (b p : Nat) (v : ItV) (l : List UInt8) (F : List Nat) : Prop where
  box : W.heap[b]? = some (.cells v.arr 29 (0, 0))
  ok : v.ok W
  wr : ∃ F', Wr 70 W p l F' ∧ Fresh F F' w ∧ b ∉ F'
  chg : Chg F w W
  dj : ∀ k ∈ v.foot, k ∉ F
  lt : ∀ k ∈ v.foot, k < w.heap.size
  wb : w.heap.size ≤ b
section
variable {w W W' : World} {b p : Nat} {v : ItV} {l l' : List UInt8} {F F1 F2 : List Nat}
theorem LyR.start (hv : v.ok w) (hw : Wr 70 w p l F) (hd : ∀ k ∈ v.foot, k ∉ F) : LyR w (w.alloc (.cells v.arr 29)) w.heap.size p v l F :=
  have hb : Below w.heap.size w (w.alloc (.cells v.arr 29)) := (Below.refl _ _).alloc (Nat.le_refl _) _
  ⟨block_new _ _, hv.below hb, ⟨F, hw.keep (Chg.of_below hb []) (fun _ _ hm => by cases hm), fun k hk => .inl hk, fun hm => by have := hw.lt _ hm; omega⟩, Chg.of_below hb _, hd, hv.lt, Nat.le_refl _⟩
theorem LyR.below (h : LyR w W b p v l F) (hb : Below W.heap.size W W') : LyR w W' b p v l F := by
  obtain ⟨F', h1, h2, h3⟩ := h.wr
  exact ⟨(hb.block _ (block_lt h.box)).trans h.box, h.ok.below hb, ⟨F', h1.keep (Chg.of_below hb []) (fun _ _ hm => by cases hm), h2, h3⟩, h.chg.trans (Chg.of_below hb []) (fun _ hm => by cases hm), h.dj, h.lt, h.wb⟩
theorem LyR.write (h : LyR w W b p v l F) (h1 : Fresh F F1 w) (hb1 : b ∉ F1) (hw : Wr 70 W' p l' F2) (hc : Chg F1 W W') (hf : Fresh F1 F2 W) : LyR w W' b p v l' F := by
  have hdis : ∀ k ∈ v.foot, k ∉ F1 := fun k hk hm => by
    rcases h1 k hm with h' | h'
    · exact h.dj k hk h'
    · have := h.lt k hk; omega
  exact ⟨(hc.block b (block_lt h.box) hb1).trans h.box, ItV.ok.keep hc h.ok hdis, ⟨F2, hw, h1.trans hf h.chg.size, fun hm => by
    rcases hf b hm with h' | h'
    · exact hb1 h'
    · have := block_lt h.box; omega⟩, h.chg.trans hc h1, h.dj, h.lt, h.wb⟩
theorem LyR.cell (h : LyR w W b p v l F) {j : Nat} {u : Value} (hu : v.arr[j]? = some u) : W.cell? ⟨b, j, none⟩ = some u := cell_of_block h.box hu
end
/-- What lay answers. -/
def LayR (bs : List UInt8) (p : Nat) (l : List UInt8) (F : List Nat) (w : World) (e : Ending) (w' : World) : Prop :=
  ∃ F', e = .returned (.tuple #[]) ∧ Wr 70 w' p (l ++ bs) F' ∧ Chg F w w' ∧ Fresh F F' w
structure LkR (w : World) (b p : Nat) (v : ItV) (l : List UInt8) (F : List Nat) (y : Value) (wr : World) : Prop where
  ex : ∃ (k : Nat), k ≤ v.ks.n ∧ y = .int .i64 k ∧ LyR w wr b p v (l ++ (headI v.it ++ encAll ((v.kids.take k).map ItV.it))) F
theorem enc_data {i : Itm} (h1 : i.typ ≠ 1) (h2 : isD i.typ = true) : i.enc = headI i ++ (i.data ++ List.replicate (up8 i.data.length - i.data.length) 0) := by
  have hb : bodyI i = i.data := by unfold bodyI; rw [if_neg h1, if_pos h2]
  rw [Itm.enc_eq, hb]
  unfold pad8
  have h3 := headI_len i
  rw [List.length_append, h3, up8_add, show 8 + up8 i.data.length - (8 + i.data.length) = up8 i.data.length - i.data.length by omega, List.append_assoc]
/-- While zeros are laid. -/
structure ZrSt (w : World) (b p : Nat) (v : ItV) (l : List UInt8) (F : List Nat) (wr : World) : Prop where
  ex : ∃ j : Nat, j ≤ up8 v.data.length - v.data.length ∧ LyR w wr b p v (l ++ headI v.it ++ v.data ++ List.replicate j 0) F
def lackZ (p : Nat) (wr : World) : Nat := match wr.cell? ⟨p, 0, none⟩ with
  | some (.slice _ m _) => up8 m - m
  | _ => 0
theorem lackZ_eq {p : Nat} {wr : World} {a : Option Addr} {m c : Nat} (h : wr.cell? ⟨p, 0, none⟩ = some (.slice a m c)) : lackZ p wr = up8 m - m := by unfold lackZ; rw [h]
theorem enc_str {i : Itm} (h : i.typ = 1) : i.enc = headI i ++ encAll i.kids := by
  have hb : bodyI i = encAll i.kids := by unfold bodyI; rw [if_pos h]
  rw [Itm.enc_eq, hb]
  unfold pad8
  have h1 := encAll_mod i.kids; have h2 := headI_len i
  rw [show up8 (headI i ++ encAll i.kids).length - (headI i ++ encAll i.kids).length = 0 by rw [List.length_append]; unfold up8; omega]
  simp
theorem enc_short {i : Itm} (h1 : i.typ ≠ 1) (h2 : isD i.typ = false) (h3 : isS i.typ = true) : i.enc = headI i ++ (be 4 (u64nat i.int) ++ be 4 0) := by
  have hb : bodyI i = be 4 (u64nat i.int) := by unfold bodyI; rw [if_neg h1, if_neg (by rw [h2]; decide), if_pos h3]
  rw [Itm.enc_eq, hb]
  unfold pad8
  have h4 := headI_len i
  rw [show up8 (headI i ++ be 4 (u64nat i.int)).length - (headI i ++ be 4 (u64nat i.int)).length = 4 by rw [List.length_append, be_len]; unfold up8; omega, List.append_assoc]
  rfl
theorem enc_long {i : Itm} (h1 : i.typ ≠ 1) (h2 : isD i.typ = false) (h3 : isS i.typ = false) : i.enc = headI i ++ be 8 (u64nat i.int) := by
  have hb : bodyI i = be 8 (u64nat i.int) := by unfold bodyI; rw [if_neg h1, if_neg (by rw [h2]; decide), if_neg (by rw [h3]; decide)]
  rw [Itm.enc_eq, hb]
  unfold pad8
  have h4 := headI_len i
  rw [show up8 (headI i ++ be 8 (u64nat i.int)).length - (headI i ++ be 8 (u64nat i.int)).length = 0 by rw [List.length_append, be_len]; unfold up8; omega]
  simp
theorem rlay_any : ∀ (v : ItV) (w : World) (p : Nat) (l : List UInt8) (F : List Nat), v.ok w → Wr 70 w p l F → (∀ k ∈ v.foot, k ∉ F) → l.length % 8 = 0 → l.length + v.it.enc.length + 16 ≤ 140737488355328 → v.it.wt ≤ 1000000 → Calls Tryd.prog 35 #[.pointer (some ⟨p, 0, none⟩), .agg v.arr] w (LayR v.it.enc p l F w) := by
  refine ItV.ind (C := fun v => ∀ (w : World) (p : Nat) (l : List UInt8) (F : List Nat), v.ok w → Wr 70 w p l F → (∀ k ∈ v.foot, k ∉ F) → l.length % 8 = 0 → l.length + v.it.enc.length + 16 ≤ 140737488355328 → v.it.wt ≤ 1000000 → Calls Tryd.prog 35 #[.pointer (some ⟨p, 0, none⟩), .agg v.arr] w (LayR v.it.enc p l F w)) ?_
  intro v ih w p l F hv hw hd hm hn hwt
  have IH := hid ih; have HLM := hid hm; have HLN := hid hn; have HWT := hid hwt
  have HEL : Hid (v.it.enc.length = up8 (8 + (bodyI v.it).length) ∧ 8 + (bodyI v.it).length ≤ v.it.enc.length) := ⟨enc_len _, by rw [enc_len]; exact (up8_ge _).1⟩
  clear ih hm hn hwt
  obtain ⟨b, hbe⟩ : ∃ b, b = w.heap.size := ⟨_, rfl⟩
  have S := hid (LyR.start hv hw hd)
  rw [← hbe] at S
  have HBE := hid hbe
  go_enter Tryd.func35, Tryd.ntmps35
  go_upto_region 1 with (fail)
  rw [← hbe]
  clear hbe hv hw hd
  generalize w.alloc (.cells v.arr 29) = W at *
  have d0 := S.out.cell (ar0 v)
  have d1 := S.out.cell (ar1 v)
  go_wp2_with fail
  obtain ⟨F1, hw1, hf1, hb1⟩ := S.out.wr
  refine (rU8_any p l F1 (v.tag / 65536) _ hw1 (by (try simp only [List.length_append, be_len]); have h1 := HLN.out; have h2 := HEL.out; omega)).mono ?_
  rintro e W2 ⟨F2, rfl, hw2, hc2, hf2⟩
  dsimp only
  have S2 := hid (S.out.write hf1 hb1 hw2 hc2 hf2)
  clear S hw1 hf1 hb1 hw2 hc2 hf2 d0 d1
  have S := S2
  clear S2
  have d0 := S.out.cell (ar0 v)
  have d1 := S.out.cell (ar1 v)
  go_wp2_with fail
  obtain ⟨F1, hw1, hf1, hb1⟩ := S.out.wr
  refine (rU16_any p _ F1 v.tag _ hw1 (by (try simp only [List.length_append, be_len]); have h1 := HLN.out; have h2 := HEL.out; omega)).mono ?_
  rintro e W2 ⟨F2, rfl, hw2, hc2, hf2⟩
  dsimp only
  have S2 := hid (S.out.write hf1 hb1 hw2 hc2 hf2)
  clear S hw1 hf1 hb1 hw2 hc2 hf2 d0 d1
  have S := S2
  clear S2
  have d1 := S.out.cell (ar1 v)
  go_wp2_with fail
  obtain ⟨F1, hw1, hf1, hb1⟩ := S.out.wr
  refine (rU8_any p _ F1 v.typ _ hw1 (by (try simp only [List.length_append, be_len]); have h1 := HLN.out; have h2 := HEL.out; omega)).mono ?_
  rintro e W2 ⟨F2, rfl, hw2, hc2, hf2⟩
  dsimp only
  have S2 := hid (S.out.write hf1 hb1 hw2 hc2 hf2)
  clear S hw1 hf1 hb1 hw2 hc2 hf2 d1
  have S := S2
  clear S2
  obtain ⟨H3, hH3⟩ : ∃ H3, H3 = be 1 (u64nat (v.tag / 65536)) ++ be 2 (u64nat v.tag) ++ be 1 (u64nat v.typ) := ⟨_, rfl⟩
  have HH : Hid (∀ n, H3 ++ be 4 (u64nat n) = headI v.it ∨ n ≠ lenI v.it) := fun n => by
    by_cases h : n = lenI v.it
    · left
      rw [hH3, h]
      unfold headI
      rw [ItV.it_eq]
      simp only [List.append_assoc]
    · exact .inr h
  have e8 : ((l ++ be 1 (u64nat (v.tag / 65536))) ++ be 2 (u64nat v.tag)) ++ be 1 (u64nat v.typ) = l ++ H3 := by rw [hH3]; simp only [List.append_assoc]
  rw [e8] at S
  have HL3 : Hid (H3.length = 4) := by show _ = _; rw [hH3]; simp only [List.length_append, be_len]
  clear e8 hH3
  by_cases ht : v.typ = 1
  · have d1 := S.out.cell (ar1 v)
    rw [ht] at d1
    have HES := hid (enc_str (i := v.it) (by rw [ItV.it_eq]; exact ht))
    have HLI : Hid (lenI v.it = (sizeF 100 v.it : Int) - 8) := by show _ = _; unfold lenI; rw [if_pos (by rw [ItV.it_eq]; exact ht)]
    have hks : v.it.kids = v.kids.map ItV.it := by rw [ItV.it_eq]
    rw [hks] at HES
    clear ht hks
    go_wp2_with (refine wpList_load_row rfl 29 _ rfl b rfl _ _ _ _ S.out.box Tryd.underlying29 rfl iSize ?_)
    refine (rSize_any v _ S.out.ok HWT.out).mono ?_
    rintro e W2 ⟨rfl, hb2⟩
    dsimp only
    have S2 := hid (S.out.below hb2)
    clear S hb2 d1
    have S := S2
    clear S2
    have hz := sizeF_le 100 v.it
    have hwz : IntKind.i64.wrap ((sizeF 100 v.it : Int) - 8) = lenI v.it := by rw [HLI.out]; exact IntWalk.i64_in _ (by omega)
    go_wp2_with fail
    clear hz hwz
    obtain ⟨F1, hw1, hf1, hb1⟩ := S.out.wr
    refine (rU32_any p _ F1 (lenI v.it) _ hw1 (by (try simp only [List.length_append, be_len]); have h1 := HLN.out; have h2 := HEL.out; have h3 := HL3.out; omega)).mono ?_
    rintro e W2 ⟨F2, rfl, hw2, hc2, hf2⟩
    dsimp only
    have S2 := hid (S.out.write hf1 hb1 hw2 hc2 hf2)
    clear S hw1 hf1 hb1 hw2 hc2 hf2
    have S := S2
    clear S2
    have e9 : (l ++ H3) ++ be 4 (u64nat (lenI v.it)) = l ++ headI v.it := by
      rcases HH.out (lenI v.it) with h | h
      · rw [List.append_assoc, h]
      · exact absurd rfl h
    rw [e9] at S
    clear e9
    have dk := S.out.cell (ar4 v)
    have hnn : v.ks.n ≤ 1099511627776 := (ItV.ok_iff.1 S.out.ok).2.1.sm
    obtain ⟨ka, hka⟩ : ∃ ka, v.ks.a = ka := ⟨_, rfl⟩
    rw [hka] at dk
    have HKA := hid hka; clear hka
    go_wp2_with fail
    clear dk
    go_loopw [4] (fun y wr => LkR w b p v l F y wr) (fun y _ => v.ks.n - (intOf y).toNat)
    case atStart => exact ⟨⟨0, Nat.zero_le _, rfl, by simpa [encAll] using S.out⟩⟩
    case round =>
      obtain ⟨k, hk, rfl, hs⟩ := hrel.ex
      clear hrel S
      have S := hid hs
      clear hs
      have dk := S.out.cell (ar4 v)
      rw [HKA.out] at dk
      by_cases hlt : k < v.ks.n
      · obtain ⟨bx, ox, x, hax, hx, hrow⟩ := (ItV.ok_iff.1 S.out.ok).2.1.row hlt
        rw [HKA.out] at hax
        subst hax
        have hmem := List.mem_of_getElem? hx
        have HDX := hid (fun q (hq : q ∈ x.foot) => S.out.dj q (ItV.mem_foot.2 (.inr (.inr ⟨x, hmem, hq⟩))))
        have HLX := hid (fun q (hq : q ∈ x.foot) => S.out.lt q (ItV.mem_foot.2 (.inr (.inr ⟨x, hmem, hq⟩))))
        have HSP : Hid (encAll (v.kids.map ItV.it) = encAll ((v.kids.take (k + 1)).map ItV.it) ++ encAll ((v.kids.drop (k + 1)).map ItV.it)) := by
          show _ = _
          rw [← encAll_app, ← List.map_append, List.take_append_drop]
        have HMM := hid hmem
        have HXW := hid (show x.it.wt ≤ 1000000 from Nat.le_trans (wt_kid (by rw [ItV.it_eq]; exact List.mem_map.2 ⟨x, hmem, rfl⟩)) HWT.out)
        have HX := hid ((ItV.ok_iff.1 S.out.ok).2.2 x hmem)
        have HTK := hid (take_map_snoc hx)
        have HRW := hid hrow
        clear hx hrow hmem
        have HNX : Hid (encAll ((v.kids.take (k + 1)).map ItV.it) = encAll ((v.kids.take k).map ItV.it) ++ x.it.enc) := by
          show _ = _
          rw [HTK.out, encAll_app, encAll_one]
        go_wp2_with (refine wpList_load_mid rfl 29 _ rfl bx (ox + k * 5) rfl x.arr.toList _ HRW.out Tryd.underlying29 rfl iSize ?_; simp only [Array.toArray_toList])
        obtain ⟨F1, hw1, hf1, hb1⟩ := S.out.wr
        refine (IH.out x HMM.out _ p _ F1 HX.out hw1 (fun q hq hm => by
          rcases hf1 q hm with h' | h'
          · exact HDX.out q hq h'
          · have := HLX.out q hq; omega) (by simp only [List.length_append, headI_len]; have h1 := HLM.out; have h2 := encAll_mod ((v.kids.take k).map ItV.it); omega)
          (by have h1 := HLN.out; have h2 := congrArg List.length HES.out; have h3 := congrArg List.length HSP.out; have h4 := congrArg List.length HNX.out; simp only [List.length_append, headI_len] at h2 h3 h4 ⊢; omega) HXW.out).mono ?_
        intro e W2 hres
        obtain ⟨F2, rfl, hw2, hc2, hf2⟩ := hres
        dsimp only
        have S2 := hid (S.out.write hf1 hb1 hw2 hc2 hf2)
        have e9 : (l ++ (headI v.it ++ encAll ((v.kids.take k).map ItV.it))) ++ x.it.enc = l ++ (headI v.it ++ encAll ((v.kids.take (k + 1)).map ItV.it)) := by rw [HNX.out]; simp only [List.append_assoc]
        rw [e9] at S2
        clear S hw1 hf1 hb1 hw2 hc2 hf2 e9 HDX HLX HX HTK HSP HNX HMM HRW dk
        go_wp2_with fail
        have HR : LkR w b p v l F (.int .i64 ((k : Int) + 1)) _ := ⟨⟨k + 1, by omega, by go_num, S2.out⟩⟩
        go_roundw
        case rel => first | exact HR | ((repeat apply Exists.intro); exact HR) | ((repeat apply Exists.intro); exact ⟨HR, rfl⟩)
        case measure => (simp [intOf] <;> omega)
      · obtain rfl : k = v.ks.n := by omega
        have h := S.out
        rw [List.take_of_length_le (by have := (ItV.ok_iff.1 S.out.ok).2.1.klen; omega), ← HES.out] at h
        have S3 := hid h
        clear h
        go_wp2_with fail
        go_end0
        obtain ⟨F5, h1, h2, _⟩ := S3.out.wr
        exact ⟨F5, rfl, h1, S3.out.chg, h2⟩
  · have hti : v.it.typ = v.typ := by rw [ItV.it_eq]
    cases hq : isD v.typ with
    | true =>
      have HES := hid (enc_data (i := v.it) (by rw [hti]; exact ht) (by rw [hti]; exact hq))
      have hdd : v.it.data = v.data := by rw [ItV.it_eq]
      have HDN := hid ((ItV.ok_iff.1 S.out.ok).1.lenB)
      have HLI : Hid ((v.ds.n : Int) = lenI v.it) := by show _ = _; unfold lenI; rw [hti, if_neg ht, if_pos hq, hdd]; have := HDN.out; omega
      rw [hdd] at HES
      have HEN : Hid (v.ds.n + 8 ≤ v.it.enc.length) := by
        have h1 := congrArg List.length HES.out
        have h2 := HDN.out
        simp only [List.length_append, headI_len] at h1
        show _ ≤ _
        omega
      have HK := hid (isD_iff.1 hq)
      clear hq ht hti hdd
      have d1 := S.out.cell (ar1 v)
      rcases HK.out with e | e | e
      · rw [e] at d1
        clear e
        have d3 := S.out.cell (ar3 v)
        go_wp2_with fail
        obtain ⟨F1, hw1, hf1, hb1⟩ := S.out.wr
        refine (rU32_any p _ F1 (v.ds.n : Int) _ hw1 (by (try simp only [List.length_append, be_len]); have h1 := HLN.out; have h2 := HEL.out; have h3 := HL3.out; omega)).mono ?_
        rintro e W2 ⟨F2, rfl, hw2, hc2, hf2⟩
        dsimp only
        have S2 := hid (S.out.write hf1 hb1 hw2 hc2 hf2)
        clear S hw1 hf1 hb1 hw2 hc2 hf2 d1 d3
        have S := S2
        clear S2
        have e9 : (l ++ H3) ++ be 4 (u64nat (v.ds.n : Int)) = l ++ headI v.it := by
          rcases HH.out (v.ds.n : Int) with h | h
          · rw [List.append_assoc, h]
          · exact absurd HLI.out h
        rw [e9] at S
        clear e9
        have d3 := S.out.cell (ar3 v)
        have hsd := (ItV.ok_iff.1 S.out.ok).1
        go_wp2_with fail
        obtain ⟨F1, hw1, hf1, hb1⟩ := S.out.wr
        refine (rRaw_any p _ F1 v.ds.a v.ds.n v.ds.c v.data _ hw1 hsd.rdB hsd.no (by simp only [List.length_append, headI_len]; have h1 := HLN.out; have h2 := HEN.out; omega)).mono ?_
        rintro e W2 ⟨F2, rfl, hw2, hc2, hf2⟩
        dsimp only
        have S2 := hid (S.out.write hf1 hb1 hw2 hc2 hf2)
        clear S hw1 hf1 hb1 hw2 hc2 hf2 d3 hsd
        have S := S2
        clear S2
        obtain ⟨i, hi, hz0, hz1, hz2⟩ := info_parts infoB
        go_wp2_with fail
        go_loopw [] (fun wr => ZrSt w b p v l F wr) (fun wr => lackZ p wr)
        case atStart => exact ⟨⟨0, Nat.zero_le _, by simpa using S.out⟩⟩
        case round =>
          obtain ⟨j, hj, hs⟩ := hrel.ex
          clear hrel S
          have S := hid hs
          clear hs
          obtain ⟨F1, hw1, hf1, hb1⟩ := S.out.wr
          obtain ⟨a, m, c, hm, h1, h2, h3, hF⟩ := hw1
          have HM : Hid (l.length + 8 + v.ds.n + j = m) := by have h4 := HDN.out; simp only [List.length_append, headI_len, List.length_replicate] at hm; show _ = _; omega
          have hc0 := cell_of_block (j := 0) h1 rfl
          have hfz := frozen_of_block (j := 0) h1
          have HLZ := hid (lackZ_eq hc0)
          have HJ : Hid (j ≤ up8 v.ds.n - v.ds.n) := by rw [← HDN.out]; exact hj
          have hmb : m ≤ 140737488355320 := by have h4 := HM.out; have h5 := HJ.out; have h6 := HLN.out; have h7 := HEN.out; have h8 := (up8_ge v.ds.n).2.1; omega
          have hmod : IntKind.i64.wrap ((m : Int).tmod 8) = (m : Int) % 8 := by rw [Int.tmod_eq_emod_of_nonneg (by omega)]; exact IntWalk.i64_in _ (by omega)
          by_cases h8 : m % 8 = 0
          · have h8z : ¬ (0 : Int) < (m : Int) % 8 := by omega
            have hjj : j = up8 v.data.length - v.data.length := by have h4 := HM.out; have h5 := HJ.out; have h6 := HLM.out; have h7 := HDN.out; have h9 := up8_ge v.ds.n; rw [h7]; omega
            have e9 : l ++ headI v.it ++ v.data ++ List.replicate j 0 = l ++ v.it.enc := by rw [HES.out, ← hjj]; simp only [List.append_assoc]
            have S3 := hid S.out
            rw [e9] at S3
            clear e9 hjj hj h1 h2 h3 hm hF hf1 hb1 h8
            go_wp2_with fail
            go_end0
            obtain ⟨F5, k1, k2, _⟩ := S3.out.wr
            exact ⟨F5, rfl, k1, S3.out.chg, k2⟩
          · have h8z : (0 : Int) < (m : Int) % 8 := by omega
            have H1 := hid h1; have H2 := hid h2; have H3 := hid h3; have HF := hid hF; have HMM := hid hm; have HF1 := hid hf1; have HB1 := hid hb1; have H8 := hid h8
            have hcA := cell_alloc hc0
            have HP : Hid (∀ w', (wr.alloc (.cells #[B8 0] 5)).grownBy w' (Value.slice a m c).ownBlock → w'.heap[p]? = some (.cells #[.slice a m c] 70 (0, 0))) := by
              intro w' hg
              rw [hg.block p (by have := block_lt H1.out; simp; omega) (fun e => H3.out p e.symm rfl)]
              exact (Below.heap_alloc _ _ _ (block_lt H1.out)).trans H1.out
            clear h1 h2 h3 hF hm hf1 hb1 h8 hj
            go_wp2_with (at_builtin; refine wpList_append_c rfl _ _ 23 rfl 0 5 i _ 1 1 Tryd.underlying23 hi hz0 hz1 hz2 rfl (by decide) _ m _ rfl (H2.out.alloc _) _ 1 _ [B8 0] rfl (RdC.new wr _ _ _ _ rfl 1 rfl _ rfl) (by intro u hu; simp at hu; subst hu; rfl) (by simp) (by unfold maxLen; omega) (by omega) (Nat.zero_le _) ?_; intro a' c' w' ho hg hn; have HO := hid ho; have HG := hid hg; have HN := hid hn; have hcell' : w'.cell? ⟨p, 0, none⟩ = some (.slice a m c) := cell_of_block (HP.out w' hg) rfl; have hfz' : w'.frozen? ⟨p, 0, none⟩ = false := frozen_of_block (j := 0) (HP.out w' hg); clear ho hg hn)
            obtain ⟨F'', k1, k2, k3⟩ := Wr.put (T := 70) (by decide) (news := [0]) HMM.out rfl H1.out H3.out HF.out ((Below.refl _ _).alloc (Nat.le_refl _) _) HO.out HG.out HN.out
            have S2 := hid (S.out.write HF1.out HB1.out k1 k2 k3)
            have e9 : l ++ headI v.it ++ v.data ++ List.replicate j 0 ++ [0] = l ++ headI v.it ++ v.data ++ List.replicate (j + 1) 0 := by rw [List.replicate_succ']; simp only [List.append_assoc]
            rw [e9] at S2
            have HCN := hid (cell_of_block (j := 0) (show _ from block_setCell (j := 0) (HP.out w' HG.out) (.slice a' (m + 1) c')) rfl)
            have HRR : ZrSt w b p v l F _ := ⟨⟨j + 1, by rw [HDN.out]; have h4 := HM.out; have h5 := HJ.out; have h6 := HLM.out; have h7 := H8.out; have h9 := up8_ge v.ds.n; omega, S2.out⟩⟩
            go_roundw
            case rel => first | exact HRR | ((repeat apply Exists.intro); exact HRR) | ((repeat apply Exists.intro); exact ⟨HRR, rfl⟩)
            case measure =>
              rw [HLZ.out, lackZ_eq HCN.out]
              have h7 := H8.out
              unfold up8
              omega
      · rw [e] at d1
        clear e
        have d3 := S.out.cell (ar3 v)
        go_wp2_with fail
        obtain ⟨F1, hw1, hf1, hb1⟩ := S.out.wr
        refine (rU32_any p _ F1 (v.ds.n : Int) _ hw1 (by (try simp only [List.length_append, be_len]); have h1 := HLN.out; have h2 := HEL.out; have h3 := HL3.out; omega)).mono ?_
        rintro e W2 ⟨F2, rfl, hw2, hc2, hf2⟩
        dsimp only
        have S2 := hid (S.out.write hf1 hb1 hw2 hc2 hf2)
        clear S hw1 hf1 hb1 hw2 hc2 hf2 d1 d3
        have S := S2
        clear S2
        have e9 : (l ++ H3) ++ be 4 (u64nat (v.ds.n : Int)) = l ++ headI v.it := by
          rcases HH.out (v.ds.n : Int) with h | h
          · rw [List.append_assoc, h]
          · exact absurd HLI.out h
        rw [e9] at S
        clear e9
        have d3 := S.out.cell (ar3 v)
        have hsd := (ItV.ok_iff.1 S.out.ok).1
        go_wp2_with fail
        obtain ⟨F1, hw1, hf1, hb1⟩ := S.out.wr
        refine (rRaw_any p _ F1 v.ds.a v.ds.n v.ds.c v.data _ hw1 hsd.rdB hsd.no (by simp only [List.length_append, headI_len]; have h1 := HLN.out; have h2 := HEN.out; omega)).mono ?_
        rintro e W2 ⟨F2, rfl, hw2, hc2, hf2⟩
        dsimp only
        have S2 := hid (S.out.write hf1 hb1 hw2 hc2 hf2)
        clear S hw1 hf1 hb1 hw2 hc2 hf2 d3 hsd
        have S := S2
        clear S2
        obtain ⟨i, hi, hz0, hz1, hz2⟩ := info_parts infoB
        go_wp2_with fail
        go_loopw [] (fun wr => ZrSt w b p v l F wr) (fun wr => lackZ p wr)
        case atStart => exact ⟨⟨0, Nat.zero_le _, by simpa using S.out⟩⟩
        case round =>
          obtain ⟨j, hj, hs⟩ := hrel.ex
          clear hrel S
          have S := hid hs
          clear hs
          obtain ⟨F1, hw1, hf1, hb1⟩ := S.out.wr
          obtain ⟨a, m, c, hm, h1, h2, h3, hF⟩ := hw1
          have HM : Hid (l.length + 8 + v.ds.n + j = m) := by have h4 := HDN.out; simp only [List.length_append, headI_len, List.length_replicate] at hm; show _ = _; omega
          have hc0 := cell_of_block (j := 0) h1 rfl
          have hfz := frozen_of_block (j := 0) h1
          have HLZ := hid (lackZ_eq hc0)
          have HJ : Hid (j ≤ up8 v.ds.n - v.ds.n) := by rw [← HDN.out]; exact hj
          have hmb : m ≤ 140737488355320 := by have h4 := HM.out; have h5 := HJ.out; have h6 := HLN.out; have h7 := HEN.out; have h8 := (up8_ge v.ds.n).2.1; omega
          have hmod : IntKind.i64.wrap ((m : Int).tmod 8) = (m : Int) % 8 := by rw [Int.tmod_eq_emod_of_nonneg (by omega)]; exact IntWalk.i64_in _ (by omega)
          by_cases h8 : m % 8 = 0
          · have h8z : ¬ (0 : Int) < (m : Int) % 8 := by omega
            have hjj : j = up8 v.data.length - v.data.length := by have h4 := HM.out; have h5 := HJ.out; have h6 := HLM.out; have h7 := HDN.out; have h9 := up8_ge v.ds.n; rw [h7]; omega
            have e9 : l ++ headI v.it ++ v.data ++ List.replicate j 0 = l ++ v.it.enc := by rw [HES.out, ← hjj]; simp only [List.append_assoc]
            have S3 := hid S.out
            rw [e9] at S3
            clear e9 hjj hj h1 h2 h3 hm hF hf1 hb1 h8
            go_wp2_with fail
            go_end0
            obtain ⟨F5, k1, k2, _⟩ := S3.out.wr
            exact ⟨F5, rfl, k1, S3.out.chg, k2⟩
          · have h8z : (0 : Int) < (m : Int) % 8 := by omega
            have H1 := hid h1; have H2 := hid h2; have H3 := hid h3; have HF := hid hF; have HMM := hid hm; have HF1 := hid hf1; have HB1 := hid hb1; have H8 := hid h8
            have hcA := cell_alloc hc0
            have HP : Hid (∀ w', (wr.alloc (.cells #[B8 0] 5)).grownBy w' (Value.slice a m c).ownBlock → w'.heap[p]? = some (.cells #[.slice a m c] 70 (0, 0))) := by
              intro w' hg
              rw [hg.block p (by have := block_lt H1.out; simp; omega) (fun e => H3.out p e.symm rfl)]
              exact (Below.heap_alloc _ _ _ (block_lt H1.out)).trans H1.out
            clear h1 h2 h3 hF hm hf1 hb1 h8 hj
            go_wp2_with (at_builtin; refine wpList_append_c rfl _ _ 23 rfl 0 5 i _ 1 1 Tryd.underlying23 hi hz0 hz1 hz2 rfl (by decide) _ m _ rfl (H2.out.alloc _) _ 1 _ [B8 0] rfl (RdC.new wr _ _ _ _ rfl 1 rfl _ rfl) (by intro u hu; simp at hu; subst hu; rfl) (by simp) (by unfold maxLen; omega) (by omega) (Nat.zero_le _) ?_; intro a' c' w' ho hg hn; have HO := hid ho; have HG := hid hg; have HN := hid hn; have hcell' : w'.cell? ⟨p, 0, none⟩ = some (.slice a m c) := cell_of_block (HP.out w' hg) rfl; have hfz' : w'.frozen? ⟨p, 0, none⟩ = false := frozen_of_block (j := 0) (HP.out w' hg); clear ho hg hn)
            obtain ⟨F'', k1, k2, k3⟩ := Wr.put (T := 70) (by decide) (news := [0]) HMM.out rfl H1.out H3.out HF.out ((Below.refl _ _).alloc (Nat.le_refl _) _) HO.out HG.out HN.out
            have S2 := hid (S.out.write HF1.out HB1.out k1 k2 k3)
            have e9 : l ++ headI v.it ++ v.data ++ List.replicate j 0 ++ [0] = l ++ headI v.it ++ v.data ++ List.replicate (j + 1) 0 := by rw [List.replicate_succ']; simp only [List.append_assoc]
            rw [e9] at S2
            have HCN := hid (cell_of_block (j := 0) (show _ from block_setCell (j := 0) (HP.out w' HG.out) (.slice a' (m + 1) c')) rfl)
            have HRR : ZrSt w b p v l F _ := ⟨⟨j + 1, by rw [HDN.out]; have h4 := HM.out; have h5 := HJ.out; have h6 := HLM.out; have h7 := H8.out; have h9 := up8_ge v.ds.n; omega, S2.out⟩⟩
            go_roundw
            case rel => first | exact HRR | ((repeat apply Exists.intro); exact HRR) | ((repeat apply Exists.intro); exact ⟨HRR, rfl⟩)
            case measure =>
              rw [HLZ.out, lackZ_eq HCN.out]
              have h7 := H8.out
              unfold up8
              omega
      · rw [e] at d1
        clear e
        have d3 := S.out.cell (ar3 v)
        go_wp2_with fail
        obtain ⟨F1, hw1, hf1, hb1⟩ := S.out.wr
        refine (rU32_any p _ F1 (v.ds.n : Int) _ hw1 (by (try simp only [List.length_append, be_len]); have h1 := HLN.out; have h2 := HEL.out; have h3 := HL3.out; omega)).mono ?_
        rintro e W2 ⟨F2, rfl, hw2, hc2, hf2⟩
        dsimp only
        have S2 := hid (S.out.write hf1 hb1 hw2 hc2 hf2)
        clear S hw1 hf1 hb1 hw2 hc2 hf2 d1 d3
        have S := S2
        clear S2
        have e9 : (l ++ H3) ++ be 4 (u64nat (v.ds.n : Int)) = l ++ headI v.it := by
          rcases HH.out (v.ds.n : Int) with h | h
          · rw [List.append_assoc, h]
          · exact absurd HLI.out h
        rw [e9] at S
        clear e9
        have d3 := S.out.cell (ar3 v)
        have hsd := (ItV.ok_iff.1 S.out.ok).1
        go_wp2_with fail
        obtain ⟨F1, hw1, hf1, hb1⟩ := S.out.wr
        refine (rRaw_any p _ F1 v.ds.a v.ds.n v.ds.c v.data _ hw1 hsd.rdB hsd.no (by simp only [List.length_append, headI_len]; have h1 := HLN.out; have h2 := HEN.out; omega)).mono ?_
        rintro e W2 ⟨F2, rfl, hw2, hc2, hf2⟩
        dsimp only
        have S2 := hid (S.out.write hf1 hb1 hw2 hc2 hf2)
        clear S hw1 hf1 hb1 hw2 hc2 hf2 d3 hsd
        have S := S2
        clear S2
        obtain ⟨i, hi, hz0, hz1, hz2⟩ := info_parts infoB
        go_wp2_with fail
        go_loopw [] (fun wr => ZrSt w b p v l F wr) (fun wr => lackZ p wr)
        case atStart => exact ⟨⟨0, Nat.zero_le _, by simpa using S.out⟩⟩
        case round =>
          obtain ⟨j, hj, hs⟩ := hrel.ex
          clear hrel S
          have S := hid hs
          clear hs
          obtain ⟨F1, hw1, hf1, hb1⟩ := S.out.wr
          obtain ⟨a, m, c, hm, h1, h2, h3, hF⟩ := hw1
          have HM : Hid (l.length + 8 + v.ds.n + j = m) := by have h4 := HDN.out; simp only [List.length_append, headI_len, List.length_replicate] at hm; show _ = _; omega
          have hc0 := cell_of_block (j := 0) h1 rfl
          have hfz := frozen_of_block (j := 0) h1
          have HLZ := hid (lackZ_eq hc0)
          have HJ : Hid (j ≤ up8 v.ds.n - v.ds.n) := by rw [← HDN.out]; exact hj
          have hmb : m ≤ 140737488355320 := by have h4 := HM.out; have h5 := HJ.out; have h6 := HLN.out; have h7 := HEN.out; have h8 := (up8_ge v.ds.n).2.1; omega
          have hmod : IntKind.i64.wrap ((m : Int).tmod 8) = (m : Int) % 8 := by rw [Int.tmod_eq_emod_of_nonneg (by omega)]; exact IntWalk.i64_in _ (by omega)
          by_cases h8 : m % 8 = 0
          · have h8z : ¬ (0 : Int) < (m : Int) % 8 := by omega
            have hjj : j = up8 v.data.length - v.data.length := by have h4 := HM.out; have h5 := HJ.out; have h6 := HLM.out; have h7 := HDN.out; have h9 := up8_ge v.ds.n; rw [h7]; omega
            have e9 : l ++ headI v.it ++ v.data ++ List.replicate j 0 = l ++ v.it.enc := by rw [HES.out, ← hjj]; simp only [List.append_assoc]
            have S3 := hid S.out
            rw [e9] at S3
            clear e9 hjj hj h1 h2 h3 hm hF hf1 hb1 h8
            go_wp2_with fail
            go_end0
            obtain ⟨F5, k1, k2, _⟩ := S3.out.wr
            exact ⟨F5, rfl, k1, S3.out.chg, k2⟩
          · have h8z : (0 : Int) < (m : Int) % 8 := by omega
            have H1 := hid h1; have H2 := hid h2; have H3 := hid h3; have HF := hid hF; have HMM := hid hm; have HF1 := hid hf1; have HB1 := hid hb1; have H8 := hid h8
            have hcA := cell_alloc hc0
            have HP : Hid (∀ w', (wr.alloc (.cells #[B8 0] 5)).grownBy w' (Value.slice a m c).ownBlock → w'.heap[p]? = some (.cells #[.slice a m c] 70 (0, 0))) := by
              intro w' hg
              rw [hg.block p (by have := block_lt H1.out; simp; omega) (fun e => H3.out p e.symm rfl)]
              exact (Below.heap_alloc _ _ _ (block_lt H1.out)).trans H1.out
            clear h1 h2 h3 hF hm hf1 hb1 h8 hj
            go_wp2_with (at_builtin; refine wpList_append_c rfl _ _ 23 rfl 0 5 i _ 1 1 Tryd.underlying23 hi hz0 hz1 hz2 rfl (by decide) _ m _ rfl (H2.out.alloc _) _ 1 _ [B8 0] rfl (RdC.new wr _ _ _ _ rfl 1 rfl _ rfl) (by intro u hu; simp at hu; subst hu; rfl) (by simp) (by unfold maxLen; omega) (by omega) (Nat.zero_le _) ?_; intro a' c' w' ho hg hn; have HO := hid ho; have HG := hid hg; have HN := hid hn; have hcell' : w'.cell? ⟨p, 0, none⟩ = some (.slice a m c) := cell_of_block (HP.out w' hg) rfl; have hfz' : w'.frozen? ⟨p, 0, none⟩ = false := frozen_of_block (j := 0) (HP.out w' hg); clear ho hg hn)
            obtain ⟨F'', k1, k2, k3⟩ := Wr.put (T := 70) (by decide) (news := [0]) HMM.out rfl H1.out H3.out HF.out ((Below.refl _ _).alloc (Nat.le_refl _) _) HO.out HG.out HN.out
            have S2 := hid (S.out.write HF1.out HB1.out k1 k2 k3)
            have e9 : l ++ headI v.it ++ v.data ++ List.replicate j 0 ++ [0] = l ++ headI v.it ++ v.data ++ List.replicate (j + 1) 0 := by rw [List.replicate_succ']; simp only [List.append_assoc]
            rw [e9] at S2
            have HCN := hid (cell_of_block (j := 0) (show _ from block_setCell (j := 0) (HP.out w' HG.out) (.slice a' (m + 1) c')) rfl)
            have HRR : ZrSt w b p v l F _ := ⟨⟨j + 1, by rw [HDN.out]; have h4 := HM.out; have h5 := HJ.out; have h6 := HLM.out; have h7 := H8.out; have h9 := up8_ge v.ds.n; omega, S2.out⟩⟩
            go_roundw
            case rel => first | exact HRR | ((repeat apply Exists.intro); exact HRR) | ((repeat apply Exists.intro); exact ⟨HRR, rfl⟩)
            case measure =>
              rw [HLZ.out, lackZ_eq HCN.out]
              have h7 := H8.out
              unfold up8
              omega
    | false =>
      cases hs : isS v.typ with
      | true =>
        have HES := hid (enc_short (i := v.it) (by rw [hti]; exact ht) (by rw [hti]; exact hq) (by rw [hti]; exact hs))
        have HLI : Hid ((4 : Int) = lenI v.it) := by show _ = _; unfold lenI; rw [hti, if_neg ht, if_neg (by rw [hq]; decide), if_pos hs]
        have hii : v.it.int = v.int := by rw [ItV.it_eq]
        rw [hii] at HES
        have HK := hid (isS_iff.1 hs)
        clear hq hs ht hti hii
        have d1 := S.out.cell (ar1 v)
        rcases HK.out with e | e | e
        · rw [e] at d1
          clear e
          go_wp2_with fail
          obtain ⟨F1, hw1, hf1, hb1⟩ := S.out.wr
          refine (rU32_any p _ F1 4 _ hw1 (by (try simp only [List.length_append, be_len]); have h1 := HLN.out; have h2 := HEL.out; have h3 := HL3.out; omega)).mono ?_
          rintro e W2 ⟨F2, rfl, hw2, hc2, hf2⟩
          dsimp only
          have S2 := hid (S.out.write hf1 hb1 hw2 hc2 hf2)
          clear S hw1 hf1 hb1 hw2 hc2 hf2 d1
          have S := S2
          clear S2
          have e9 : (l ++ H3) ++ be 4 (u64nat 4) = l ++ headI v.it := by
            rcases HH.out 4 with h | h
            · rw [List.append_assoc, h]
            · exact absurd HLI.out h
          rw [e9] at S
          clear e9
          have d2 := S.out.cell (ar2 v)
          go_wp2_with fail
          obtain ⟨F1, hw1, hf1, hb1⟩ := S.out.wr
          refine (rU32_any p _ F1 v.int _ hw1 (by simp only [List.length_append, headI_len]; have h1 := HLN.out; have h2 := HEL.out; omega)).mono ?_
          rintro e W2 ⟨F2, rfl, hw2, hc2, hf2⟩
          dsimp only
          have S2 := hid (S.out.write hf1 hb1 hw2 hc2 hf2)
          clear S hw1 hf1 hb1 hw2 hc2 hf2 d2
          have S := S2
          clear S2
          go_wp2_with fail
          obtain ⟨F1, hw1, hf1, hb1⟩ := S.out.wr
          refine (rU32_any p _ F1 0 _ hw1 (by simp only [List.length_append, headI_len, be_len]; have h1 := HLN.out; have h2 := HEL.out; omega)).mono ?_
          rintro e W2 ⟨F2, rfl, hw2, hc2, hf2⟩
          dsimp only
          have S2 := hid (S.out.write hf1 hb1 hw2 hc2 hf2)
          clear S hw1 hf1 hb1 hw2 hc2 hf2
          have S := S2
          clear S2
          have e9 : l ++ headI v.it ++ be 4 (u64nat v.int) ++ be 4 (u64nat 0) = l ++ v.it.enc := by rw [HES.out, show u64nat 0 = 0 from rfl]; simp only [List.append_assoc]
          rw [e9] at S
          clear e9
          go_wp2_with fail
          go_end0
          obtain ⟨F5, h1, h2, _⟩ := S.out.wr
          exact ⟨F5, rfl, h1, S.out.chg, h2⟩
        · rw [e] at d1
          clear e
          go_wp2_with fail
          obtain ⟨F1, hw1, hf1, hb1⟩ := S.out.wr
          refine (rU32_any p _ F1 4 _ hw1 (by (try simp only [List.length_append, be_len]); have h1 := HLN.out; have h2 := HEL.out; have h3 := HL3.out; omega)).mono ?_
          rintro e W2 ⟨F2, rfl, hw2, hc2, hf2⟩
          dsimp only
          have S2 := hid (S.out.write hf1 hb1 hw2 hc2 hf2)
          clear S hw1 hf1 hb1 hw2 hc2 hf2 d1
          have S := S2
          clear S2
          have e9 : (l ++ H3) ++ be 4 (u64nat 4) = l ++ headI v.it := by
            rcases HH.out 4 with h | h
            · rw [List.append_assoc, h]
            · exact absurd HLI.out h
          rw [e9] at S
          clear e9
          have d2 := S.out.cell (ar2 v)
          go_wp2_with fail
          obtain ⟨F1, hw1, hf1, hb1⟩ := S.out.wr
          refine (rU32_any p _ F1 v.int _ hw1 (by simp only [List.length_append, headI_len]; have h1 := HLN.out; have h2 := HEL.out; omega)).mono ?_
          rintro e W2 ⟨F2, rfl, hw2, hc2, hf2⟩
          dsimp only
          have S2 := hid (S.out.write hf1 hb1 hw2 hc2 hf2)
          clear S hw1 hf1 hb1 hw2 hc2 hf2 d2
          have S := S2
          clear S2
          go_wp2_with fail
          obtain ⟨F1, hw1, hf1, hb1⟩ := S.out.wr
          refine (rU32_any p _ F1 0 _ hw1 (by simp only [List.length_append, headI_len, be_len]; have h1 := HLN.out; have h2 := HEL.out; omega)).mono ?_
          rintro e W2 ⟨F2, rfl, hw2, hc2, hf2⟩
          dsimp only
          have S2 := hid (S.out.write hf1 hb1 hw2 hc2 hf2)
          clear S hw1 hf1 hb1 hw2 hc2 hf2
          have S := S2
          clear S2
          have e9 : l ++ headI v.it ++ be 4 (u64nat v.int) ++ be 4 (u64nat 0) = l ++ v.it.enc := by rw [HES.out, show u64nat 0 = 0 from rfl]; simp only [List.append_assoc]
          rw [e9] at S
          clear e9
          go_wp2_with fail
          go_end0
          obtain ⟨F5, h1, h2, _⟩ := S.out.wr
          exact ⟨F5, rfl, h1, S.out.chg, h2⟩
        · rw [e] at d1
          clear e
          go_wp2_with fail
          obtain ⟨F1, hw1, hf1, hb1⟩ := S.out.wr
          refine (rU32_any p _ F1 4 _ hw1 (by (try simp only [List.length_append, be_len]); have h1 := HLN.out; have h2 := HEL.out; have h3 := HL3.out; omega)).mono ?_
          rintro e W2 ⟨F2, rfl, hw2, hc2, hf2⟩
          dsimp only
          have S2 := hid (S.out.write hf1 hb1 hw2 hc2 hf2)
          clear S hw1 hf1 hb1 hw2 hc2 hf2 d1
          have S := S2
          clear S2
          have e9 : (l ++ H3) ++ be 4 (u64nat 4) = l ++ headI v.it := by
            rcases HH.out 4 with h | h
            · rw [List.append_assoc, h]
            · exact absurd HLI.out h
          rw [e9] at S
          clear e9
          have d2 := S.out.cell (ar2 v)
          go_wp2_with fail
          obtain ⟨F1, hw1, hf1, hb1⟩ := S.out.wr
          refine (rU32_any p _ F1 v.int _ hw1 (by simp only [List.length_append, headI_len]; have h1 := HLN.out; have h2 := HEL.out; omega)).mono ?_
          rintro e W2 ⟨F2, rfl, hw2, hc2, hf2⟩
          dsimp only
          have S2 := hid (S.out.write hf1 hb1 hw2 hc2 hf2)
          clear S hw1 hf1 hb1 hw2 hc2 hf2 d2
          have S := S2
          clear S2
          go_wp2_with fail
          obtain ⟨F1, hw1, hf1, hb1⟩ := S.out.wr
          refine (rU32_any p _ F1 0 _ hw1 (by simp only [List.length_append, headI_len, be_len]; have h1 := HLN.out; have h2 := HEL.out; omega)).mono ?_
          rintro e W2 ⟨F2, rfl, hw2, hc2, hf2⟩
          dsimp only
          have S2 := hid (S.out.write hf1 hb1 hw2 hc2 hf2)
          clear S hw1 hf1 hb1 hw2 hc2 hf2
          have S := S2
          clear S2
          have e9 : l ++ headI v.it ++ be 4 (u64nat v.int) ++ be 4 (u64nat 0) = l ++ v.it.enc := by rw [HES.out, show u64nat 0 = 0 from rfl]; simp only [List.append_assoc]
          rw [e9] at S
          clear e9
          go_wp2_with fail
          go_end0
          obtain ⟨F5, h1, h2, _⟩ := S.out.wr
          exact ⟨F5, rfl, h1, S.out.chg, h2⟩
      | false =>
        have HES := hid (enc_long (i := v.it) (by rw [hti]; exact ht) (by rw [hti]; exact hq) (by rw [hti]; exact hs))
        have HLI : Hid ((8 : Int) = lenI v.it) := by show _ = _; unfold lenI; rw [hti, if_neg ht, if_neg (by rw [hq]; decide), if_neg (by rw [hs]; decide)]
        have hii : v.it.int = v.int := by rw [ItV.it_eq]
        rw [hii] at HES
        have e1 : (v.typ == 1) = false := beq_eq_false_iff_ne.2 ht
        have e4 : (v.typ == 4) = false := beq_eq_false_iff_ne.2 (fun h => by rw [h] at hq; cases hq)
        have e7 : (v.typ == 7) = false := beq_eq_false_iff_ne.2 (fun h => by rw [h] at hq; cases hq)
        have e8 : (v.typ == 8) = false := beq_eq_false_iff_ne.2 (fun h => by rw [h] at hq; cases hq)
        have e2 : (v.typ == 2) = false := beq_eq_false_iff_ne.2 (fun h => by rw [h] at hs; cases hs)
        have e5 : (v.typ == 5) = false := beq_eq_false_iff_ne.2 (fun h => by rw [h] at hs; cases hs)
        have e10 : (v.typ == 10) = false := beq_eq_false_iff_ne.2 (fun h => by rw [h] at hs; cases hs)
        clear hq hs ht hti hii
        have d1 := S.out.cell (ar1 v)
        go_wp2_with fail
        obtain ⟨F1, hw1, hf1, hb1⟩ := S.out.wr
        refine (rU32_any p _ F1 8 _ hw1 (by (try simp only [List.length_append, be_len]); have h1 := HLN.out; have h2 := HEL.out; have h3 := HL3.out; omega)).mono ?_
        rintro e W2 ⟨F2, rfl, hw2, hc2, hf2⟩
        dsimp only
        have S2 := hid (S.out.write hf1 hb1 hw2 hc2 hf2)
        clear S hw1 hf1 hb1 hw2 hc2 hf2 d1
        have S := S2
        clear S2
        have e9 : (l ++ H3) ++ be 4 (u64nat 8) = l ++ headI v.it := by
          rcases HH.out 8 with h | h
          · rw [List.append_assoc, h]
          · exact absurd HLI.out h
        rw [e9] at S
        clear e9
        have d2 := S.out.cell (ar2 v)
        have hun := u64nat_eq v.int
        go_wp2_with fail
        obtain ⟨F1, hw1, hf1, hb1⟩ := S.out.wr
        refine (rU64_any p _ F1 (u64nat v.int) _ hw1 (u64nat_lt _) (by simp only [List.length_append, headI_len]; have h1 := HLN.out; have h2 := HEL.out; omega)).mono ?_
        rintro e W2 ⟨F2, rfl, hw2, hc2, hf2⟩
        dsimp only
        have S2 := hid (S.out.write hf1 hb1 hw2 hc2 hf2)
        clear S hw1 hf1 hb1 hw2 hc2 hf2 d2 hun
        have S := S2
        clear S2
        have e9 : l ++ headI v.it ++ be 8 (u64nat v.int) = l ++ v.it.enc := by rw [HES.out]; simp only [List.append_assoc]
        rw [e9] at S
        clear e9
        go_wp2_with fail
        go_end0
        obtain ⟨F5, h1, h2, _⟩ := S.out.wr
        exact ⟨F5, rfl, h1, S.out.chg, h2⟩
end Go.Proofs.YtmpajhacigjloaaDoor
