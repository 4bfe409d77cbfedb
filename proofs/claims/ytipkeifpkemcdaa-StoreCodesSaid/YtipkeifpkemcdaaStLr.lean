/- locksmithref1.LayChanges. -/
import Derived.Test.YtipkeifpkemcdaaMStA
namespace Go.Proofs.Ytipkeifpkemcdaa
open Go.RowKit
set_option linter.unusedVariables false
set_option linter.unusedSimpArgs false
set_option maxRecDepth 1000000
set_option maxHeartbeats 6400000
/-- What the document's LayChanges answers. -/
def LayResR (w : World) (l : List Cg) (e : Ending) (w' : World) : Prop := Below w.heap.size w w' ∧
  ((okCs l = true ∧ ∃ a n c, e = .returned (.tuple #[.slice a n c, .int .i64 0]) ∧ RdB w' a n (layCs l) ∧ (a = none → c = 0) ∧ n ≤ c ∧ ∀ b off sp, a = some ⟨b, off, sp⟩ → w.heap.size ≤ b ∧ b < w'.heap.size) ∨ (okCs l = false ∧ e = .returned (.tuple #[.slice none 0 0, .int .i64 1])))
/-- While the changes are laid. -/
structure LyR (w0 : World) (p n : Nat) (T : TypeId) (l : List ChD) (y5 : Value) (wr : World) : Prop where
  ex : ∃ (k : Nat) (F : List Nat), y5 = .int .i64 (k : Int) ∧ k ≤ n ∧ (∀ x ∈ l.take k, x.cg.ok = true) ∧ Wr T wr p (be 2 n ++ ((l.take k).map ChD.cg).flatMap layC) F ∧ (∀ q ∈ F, w0.heap.size ≤ q) ∧ Below w0.heap.size w0 wr
theorem take_len' (l : List ChD) (k : Nat) (hok : ∀ x ∈ l.take k, x.cg.ok = true) (hk : k ≤ 1000) : (((l.take k).map ChD.cg).flatMap layC).length ≤ 65700000 := by
  have h1 : ∀ c ∈ (l.take k).map ChD.cg, c.ok = true := fun c hc => by
    obtain ⟨x, hx, rfl⟩ := List.mem_map.1 hc
    exact hok x hx
  have h2 := flat_len h1
  rw [List.length_map, List.length_take] at h2
  omega
theorem take_snocs {l : List ChD} {k : Nat} {x : ChD} (h : ∀ y ∈ l.take k, y.cg.ok = true) (hx : l[k]? = some x) (ho : x.cg.ok = true) : ∀ y ∈ l.take (k + 1), y.cg.ok = true := fun y hy => by
  rw [List.take_add_one, hx] at hy
  rcases List.mem_append.1 hy with h' | h'
  · exact h y h'
  · simp at h'; rw [h']; exact ho
theorem ok_bad {l : List ChD} {k : Nat} {x : ChD} (h : l[k]? = some x) (hx : x.cg.ok = false) : okCs (l.map ChD.cg) = false := by
  unfold okCs
  rw [Bool.and_eq_false_iff]
  refine .inr ?_
  rw [List.all_eq_false]
  exact ⟨x.cg, List.mem_map.2 ⟨x, List.mem_of_getElem? h, rfl⟩, by rw [hx]; decide⟩
theorem lay5r_any (a : Option Addr) (n c : Nat) (l : List ChD) (w : World) (h : ChA w a n l) :
    Calls Try.prog 11 #[.slice a n c] w (LayResR w (l.map ChD.cg)) := by
  have H := hid h
  have hsm := h.sm
  have HL := hid h.len
  clear h
  go_enter Try.func11, Try.ntmps11
  by_cases k1 : n ≤ 1000
  · have k1z : ¬ (1000 : Int) < (n : Int) := by omega
    go_upto_region 4 with (fail)
    have hw2 : Wr 73 (w.alloc (.cells #[.slice none 0 0] 73)) w.heap.size [] [w.heap.size] := ⟨none, 0, 0, rfl, block_new _ _, World.ownsRow_nil _ _ _ _, (fun g hg => by cases hg), rfl⟩
    have HW2 := hid hw2
    have HB2 := hid (show Below w.heap.size w (w.alloc (.cells #[.slice none 0 0] 73)) from (Below.refl _ _).alloc (Nat.le_refl _) _)
    clear hw2
    obtain ⟨p, hp⟩ : ∃ p, p = w.heap.size := ⟨_, rfl⟩
    rw [← hp] at HW2 ⊢
    have HP := hid (show w.heap.size ≤ p by omega)
    clear hp
    generalize w.alloc (.cells #[.slice none 0 0] 73) = w2 at *
    go_wp2_with fail
    refine (rU16_any p [] [p] (n : Int) _ HW2.out (by simp)).mono ?_
    rintro e w3 ⟨F, rfl, hw3, hc3, hf3⟩
    dsimp only
    rw [u64nat_nat n (by omega), List.nil_append] at hw3
    have HW3 := hid hw3
    have HB3 := hid (HB2.out.trans (hc3.below (fun q hq => by rw [List.mem_singleton.1 hq]; exact HP.out) HB2.out.size))
    have HF3 := hid (show ∀ q ∈ F, w.heap.size ≤ q from fun q hq => by
      rcases hf3 q hq with h | h
      · rw [List.mem_singleton.1 h]; exact HP.out
      · exact Nat.le_trans HB2.out.size h)
    clear hw3 hc3 hf3 HW2 HB2
    go_wp2_with fail
    go_loopw [5] (fun y5 wr => LyR w p n 73 l y5 wr) (fun y5 _ => n - (intOf y5).toNat)
    case atStart => exact ⟨⟨0, F, rfl, Nat.zero_le _, (fun x hx => by cases hx), by simpa using HW3.out, HF3.out, HB3.out⟩⟩
    case round =>
      clear HW3 HB3 HF3
      obtain ⟨k, F, rfl, hk, hall, hwr, hlow, hb⟩ := hrel.ex
      clear hrel
      have HALL := hid hall
      clear hall
      have HWR := hid hwr; have HLOW := hid hlow; have HB := hid hb
      clear hwr hlow hb
      by_cases k2 : k < n
      · have k2z : (k : Int) < (n : Int) := by omega
        obtain ⟨bL, oL, x, haL, hlx, hrow, hxo⟩ := H.out.row k k2
        have HXO := hid hxo; have HLX := hid hlx
        have HR := hid (show wr.rangeAt bL (oL + k * 3) x.cells from fun j v hv => (HB.out.cell (World.block_lt_of_cell? w _ (hrow j v hv))).trans (hrow j v hv))
        subst haL
        clear hxo hlx hrow
        have HTL := hid (take_len' l k HALL.out (by omega))
        go_upto_region 9 with (first | (refine wpList_load_mid rfl 59 _ rfl bL (oL + k * 3) rfl x.cells _ HR.out Try.underlying59 rfl chSize ?_) | (refine wpList_alloc_obj rfl 59 rfl _ chZero ?_) | (refine wpList_store_obj rfl 59 _ _ rfl wr.heap.size rfl x.cells.toArray rfl _ _ (block_new wr _) rfl chSize (chOne x) ?_; intro w5 hb5 hc5 hs5; have HX := hid hb5; have HC5 := hid hc5; clear hb5 hc5 hs5))
        have hbel : Below wr.heap.size wr w5 := ((Below.refl _ wr).alloc (Nat.le_refl _) _).trans (HC5.out.below (fun k hk => by rw [List.mem_singleton.1 hk]; exact Nat.le_refl _) (by simp))
        have HB5 := hid (HB.out.trans (hbel.mono HB.out.size))
        have HWR5 := hid (HWR.out.keep (Chg.of_below hbel []) (fun _ _ hm => by cases hm))
        have HBS := hid (show ∀ q ∈ F, q < wr.heap.size from HWR.out.lt)
        have HZ5 := hid hbel.size
        clear hbel HC5 HR HWR
        generalize wr.heap.size = bs at *
        have c0 : w5.cell? ⟨bs, 0, none⟩ = some (.string x.key) := cell_of_block (j := 0) HX.out rfl
        have c1 : w5.cell? ⟨bs, 1, none⟩ = some (.bool x.has) := cell_of_block (j := 1) HX.out rfl
        have c2 : w5.cell? ⟨bs, 2, none⟩ = some (.slice x.va x.vn x.vc) := cell_of_block (j := 2) HX.out rfl
        obtain ⟨hv, hhv⟩ : ∃ b, x.has = b := ⟨_, rfl⟩
        have HHV := hid hhv
        rw [hhv] at c1
        clear hhv
        by_cases b1 : x.key.toList.isEmpty = true
        · go_wp2_with fail
          go_ret2
          exact ⟨HB5.out, .inr ⟨ok_bad HLX.out (by rw [cg_ok w x HXO.out]; simp [b1]), rfl⟩⟩
        have b1' : x.key.toList.isEmpty = false := by cases h : x.key.toList.isEmpty with | true => exact absurd h b1 | false => rfl
        clear b1
        by_cases b2 : (100 : Int) < (x.key.size : Int)
        · go_wp2_with fail
          go_ret2
          exact ⟨HB5.out, .inr ⟨ok_bad HLX.out (by rw [cg_ok w x HXO.out]; simp [Int.not_le.2 b2]), rfl⟩⟩
        by_cases b3 : (65535 : Int) < (x.vn : Int)
        · go_wp2_with fail
          go_ret2
          exact ⟨HB5.out, .inr ⟨ok_bad HLX.out (by rw [cg_ok w x HXO.out]; simp [Int.not_le.2 b3]), rfl⟩⟩
        cases hv with
        | true =>
          have hxk : x.cg.ok = true := by rw [cg_ok w x HXO.out, HHV.out]; simp [b1', Int.not_lt.1 b2, Int.not_lt.1 b3]
          have hxk' := Cg.ok_iff.1 hxk
          have HXK := hid hxk
          go_upto_region 11 with (fail)
          clear c0 c1 c2
          have c0 : w5.cell? ⟨bs, 0, none⟩ = some (.string x.key) := cell_of_block (j := 0) HX.out rfl
          have kc := Lib.run_convert_string_bytes (P := Try.prog) w5 9 24 5 x.key Try.underlying9 Try.underlying24 Try.underlying5
          have hb6 := bytesW_below w5 5 x.key
          have hr6 := bytesW_rdB w5 5 x.key
          have hx6 : (Lib.bytesWorld w5 5 x.key).heap[bs]? = some (.cells x.cells.toArray 59 (0, 0)) := (hb6.block _ (block_lt HX.out)).trans HX.out
          have HB6 := hid (HB5.out.trans (hb6.mono HB5.out.size))
          have HWR6 := hid (HWR5.out.keep (Chg.of_below hb6 []) (fun _ _ hm => by cases hm))
          have HR6 := hid hr6; have HX6 := hid hx6
          have HLT5 := hid HWR5.out.lt
          have hlk : x.key.size = x.cg.key.length := (key_len x.key).symm
          have hkz : x.key.size ≤ 65535 := by have := hxk'.2.1; omega
          clear hb6 hr6 hx6 hlk HB5 HWR5
          generalize grownCap w5 x.key.size 0 5 = gc at *
          generalize Lib.bytesWorld w5 5 x.key = w6 at *
          generalize w5.heap.size = z5 at *
          go_wp2_with fail
          refine (rShort_any p _ F (some ⟨z5, 0, none⟩) x.key.size gc x.key.data.toList _ HWR6.out HR6.out (by simp) (fun w1 h1 => h1.rdB HR6.out (fun b off sp hb hm => by simp at hb; have := HLT5.out _ hm; omega)) hkz (by rw [List.length_append, be_len]; have := HTL.out; omega)).mono ?_
          rintro e w7 ⟨F1, rfl, hw7, hc7, hf7⟩
          dsimp only
          have HW7 := hid hw7
          have HX7 := hid ((hc7.block _ (block_lt HX6.out) (fun hm => by have := HBS.out _ hm; omega)).trans HX6.out)
          have HB7 := hid (HB6.out.trans (hc7.below HLOW.out HB6.out.size))
          have HF1 := hid (show ∀ q ∈ F1, w.heap.size ≤ q ∧ q ≠ bs from fun q hq => by
            rcases hf7 q hq with h | h
            · exact ⟨HLOW.out q h, fun e => by have := HBS.out q h; omega⟩
            · have h1 := HB6.out.size; have h2 := block_lt HX6.out; exact ⟨by omega, by omega⟩)
          have HSZ := hid HXO.out.rd.len
          clear hw7 hc7 hf7 HX6 HB6 HWR6 HR6 HX HLT5 HBS HZ5 c0 kc hkz
          have c1 : w7.cell? ⟨bs, 1, none⟩ = some (.bool true) := (cell_of_block (j := 1) HX7.out rfl : w7.cell? ⟨bs, 1, none⟩ = some (.bool x.has)).trans (by rw [HHV.out])
          go_wp2_with fail
          refine (rU8_any p _ F1 1 _ HW7.out (by simp only [List.length_append, be_len, key_len]; have h1 := HTL.out; have h2 := hxk'.2.1; have h3 := key_len x.key; unfold ChD.cg at h2; dsimp only at h2; omega)).mono ?_
          rintro e w8 ⟨F2, rfl, hw8, hc8, hf8⟩
          dsimp only
          rw [show u64nat 1 = 1 from rfl] at hw8
          have HW8 := hid hw8
          have HX8 := hid ((hc8.block _ (block_lt HX7.out) (fun hm => (HF1.out _ hm).2 rfl)).trans HX7.out)
          have HB8 := hid (HB7.out.trans (hc8.below (fun q hq => (HF1.out q hq).1) HB7.out.size))
          have HF2 := hid (show ∀ q ∈ F2, w.heap.size ≤ q from fun q hq => by
            rcases hf8 q hq with h | h
            · exact (HF1.out q h).1
            · have h1 := HB7.out.size; omega)
          clear hw8 hc8 hf8 HW7 HX7 HB7 HF1 c1
          have c2 : w8.cell? ⟨bs, 2, none⟩ = some (.slice x.va x.vn x.vc) := cell_of_block (j := 2) HX8.out rfl
          go_wp2_with fail
          refine (rShort_any p _ F2 x.va x.vn x.vc x.val _ HW8.out (HXO.out.rd.below HB8.out) HXO.out.no (fun w1 h1 => HXO.out.rd.below (HB8.out.trans (h1.below HF2.out HB8.out.size))) (by have h2 := hxk'.2.2.1; have h3 := HSZ.out; unfold ChD.cg at h2; dsimp only at h2; omega) (by simp only [List.length_append, be_len, key_len]; have h1 := HTL.out; have h2 := hxk'.2.1; have h3 := key_len x.key; unfold ChD.cg at h2; dsimp only at h2; omega)).mono ?_
          rintro e w9 ⟨F3, rfl, hw9, hc9, hf9⟩
          dsimp only
          rw [← lay_on l k n x HLX.out HSZ.out HHV.out] at hw9
          have HRR : LyR w p n 73 l (.int .i64 ((k : Int) + 1)) w9 := ⟨⟨k + 1, F3, rfl, k2, take_snocs HALL.out HLX.out HXK.out, hw9, fun q hq => by
            rcases hf9 q hq with h | h
            · exact HF2.out q h
            · have h1 := HB8.out.size; omega, HB8.out.trans (hc9.below HF2.out HB8.out.size)⟩⟩
          clear hw9 hc9 hf9 c2
          go_wp2_with fail
          go_roundw
          case rel => first | exact HRR | ((repeat apply Exists.intro); exact HRR) | ((repeat apply Exists.intro); exact ⟨HRR, rfl⟩)
          case measure => (simp [intOf] <;> omega)
        | false =>
          by_cases b4 : (0 : Int) < (x.vn : Int)
          · go_wp2_with fail
            go_ret2
            exact ⟨HB5.out, .inr ⟨ok_bad HLX.out (by rw [cg_ok w x HXO.out]; rw [HHV.out]; simp; omega), rfl⟩⟩
          have hxk : x.cg.ok = true := by rw [cg_ok w x HXO.out, HHV.out]; simp [b1', Int.not_lt.1 b2, Int.not_lt.1 b3, show x.vn = 0 by omega]
          have hxk' := Cg.ok_iff.1 hxk
          have HXK := hid hxk
          go_upto_region 11 with (fail)
          clear c0 c1 c2
          have c0 : w5.cell? ⟨bs, 0, none⟩ = some (.string x.key) := cell_of_block (j := 0) HX.out rfl
          have kc := Lib.run_convert_string_bytes (P := Try.prog) w5 9 24 5 x.key Try.underlying9 Try.underlying24 Try.underlying5
          have hb6 := bytesW_below w5 5 x.key
          have hr6 := bytesW_rdB w5 5 x.key
          have hx6 : (Lib.bytesWorld w5 5 x.key).heap[bs]? = some (.cells x.cells.toArray 59 (0, 0)) := (hb6.block _ (block_lt HX.out)).trans HX.out
          have HB6 := hid (HB5.out.trans (hb6.mono HB5.out.size))
          have HWR6 := hid (HWR5.out.keep (Chg.of_below hb6 []) (fun _ _ hm => by cases hm))
          have HR6 := hid hr6; have HX6 := hid hx6
          have HLT5 := hid HWR5.out.lt
          have hlk : x.key.size = x.cg.key.length := (key_len x.key).symm
          have hkz : x.key.size ≤ 65535 := by have := hxk'.2.1; omega
          clear hb6 hr6 hx6 hlk HB5 HWR5
          generalize grownCap w5 x.key.size 0 5 = gc at *
          generalize Lib.bytesWorld w5 5 x.key = w6 at *
          generalize w5.heap.size = z5 at *
          go_wp2_with fail
          refine (rShort_any p _ F (some ⟨z5, 0, none⟩) x.key.size gc x.key.data.toList _ HWR6.out HR6.out (by simp) (fun w1 h1 => h1.rdB HR6.out (fun b off sp hb hm => by simp at hb; have := HLT5.out _ hm; omega)) hkz (by rw [List.length_append, be_len]; have := HTL.out; omega)).mono ?_
          rintro e w7 ⟨F1, rfl, hw7, hc7, hf7⟩
          dsimp only
          have HW7 := hid hw7
          have HX7 := hid ((hc7.block _ (block_lt HX6.out) (fun hm => by have := HBS.out _ hm; omega)).trans HX6.out)
          have HB7 := hid (HB6.out.trans (hc7.below HLOW.out HB6.out.size))
          have HF1 := hid (show ∀ q ∈ F1, w.heap.size ≤ q ∧ q ≠ bs from fun q hq => by
            rcases hf7 q hq with h | h
            · exact ⟨HLOW.out q h, fun e => by have := HBS.out q h; omega⟩
            · have h1 := HB6.out.size; have h2 := block_lt HX6.out; exact ⟨by omega, by omega⟩)
          have HSZ := hid HXO.out.rd.len
          clear hw7 hc7 hf7 HX6 HB6 HWR6 HR6 HX HLT5 HBS HZ5 c0 kc hkz
          have c1 : w7.cell? ⟨bs, 1, none⟩ = some (.bool false) := (cell_of_block (j := 1) HX7.out rfl : w7.cell? ⟨bs, 1, none⟩ = some (.bool x.has)).trans (by rw [HHV.out])
          go_wp2_with fail
          refine (rU8_any p _ F1 0 _ HW7.out (by simp only [List.length_append, be_len, key_len]; have h1 := HTL.out; have h2 := hxk'.2.1; have h3 := key_len x.key; unfold ChD.cg at h2; dsimp only at h2; omega)).mono ?_
          rintro e w9 ⟨F3, rfl, hw9, hc9, hf9⟩
          dsimp only
          rw [show u64nat 0 = 0 from rfl, ← lay_off l k n x HLX.out HHV.out] at hw9
          have HRR : LyR w p n 73 l (.int .i64 ((k : Int) + 1)) w9 := ⟨⟨k + 1, F3, rfl, k2, take_snocs HALL.out HLX.out HXK.out, hw9, fun q hq => by
            rcases hf9 q hq with h | h
            · exact (HF1.out q h).1
            · have h1 := HB7.out.size; omega, HB7.out.trans (hc9.below (fun q hq => (HF1.out q hq).1) HB7.out.size)⟩⟩
          clear hw9 hc9 hf9 c1
          go_wp2_with fail
          go_roundw
          case rel => first | exact HRR | ((repeat apply Exists.intro); exact HRR) | ((repeat apply Exists.intro); exact ⟨HRR, rfl⟩)
          case measure => (simp [intOf] <;> omega)
      · have k2z : ¬ (k : Int) < (n : Int) := by omega
        obtain rfl : k = n := by omega
        have htk : l.take k = l := List.take_of_length_le (by rw [HL.out]; exact Nat.le_refl _)
        obtain ⟨a', m', c', hm, h1, h2, h3, hF⟩ := HWR.out
        have hcell : wr.cell? ⟨p, 0, none⟩ = some (.slice a' m' c') := cell_of_block h1 rfl
        have HO := hid h2; have HLW := hid (show ∀ b off sp, a' = some ⟨b, off, sp⟩ → w.heap.size ≤ b ∧ b < wr.heap.size from fun b off sp e => by
          have h4 := (h2.lt b (by rw [e]; rfl)).2
          exact ⟨HLOW.out b (by rw [hF, e]; simp [Value.ownBlock]), h4⟩)
        clear hm h1 h2 h3 hF
        go_wp2_with fail
        go_ret2
        refine ⟨HB.out, .inl ⟨?_, a', m', c', rfl, ?_, (own_slice HO.out).2.1, (own_slice HO.out).1, HLW.out⟩⟩
        · rw [ok_of_all HL.out k1, List.all_eq_true]
          intro y hy
          exact HALL.out y (by rw [htk]; exact hy)
        · have h5 := RdB.of_own HO.out
          rw [htk] at h5
          unfold layCs
          rw [List.length_map, HL.out]
          exact h5
  · have k1z : (1000 : Int) < (n : Int) := by omega
    have HOK := hid (ok_of_big HL.out (by omega))
    go_wp2_with fail
    go_ret2
    exact ⟨Below.refl _ _, .inr ⟨HOK.out, rfl⟩⟩
end Go.Proofs.Ytipkeifpkemcdaa
