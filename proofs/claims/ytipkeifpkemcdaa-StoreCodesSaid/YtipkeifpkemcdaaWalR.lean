/- wal.read of any sector. -/
import Derived.Test.YtipkeifpkemcdaaWal4
import Derived.Test.YtipkeifpkemcdaaOctBack
namespace Go.Proofs.Ytipkeifpkemcdaa
open Go.RowKit
set_option linter.unusedVariables false
set_option linter.unusedSimpArgs false
set_option maxRecDepth 100000
set_option maxHeartbeats 3200000
def hdE (B : List UInt8) : Nat := num (taken (restOf B false 8) (lackOf B false 8) 8)
def hdR (B : List UInt8) : List UInt8 × Bool := (restOf (restOf B false 8) (lackOf B false 8) 8, lackOf (restOf B false 8) (lackOf B false 8) 8)
def hdA (B : List UInt8) : Int := asInt (num (taken (hdR B).1 (hdR B).2 4))
def hdU (B : List UInt8) : Int := asInt (num (taken (restOf (hdR B).1 (hdR B).2 4) (lackOf (hdR B).1 (hdR B).2 4) 4))
theorem taken_le (l : List UInt8) (k : Bool) : (taken l k 4).length ≤ 4 := by
  unfold taken
  split
  · simp
  · simp; omega
theorem num_lt4 (l : List UInt8) (h : l.length ≤ 4) : num l < 4294967296 := by
  match l, h with
  | [], _ => decide
  | [a], _ => have := a.toNat_lt; simp [num]; omega
  | [a, b], _ => have := a.toNat_lt; have := b.toNat_lt; simp [num]; omega
  | [a, b, c], _ => have := a.toNat_lt; have := b.toNat_lt; have := c.toNat_lt; simp [num]; omega
  | [a, b, c, d], _ => have := a.toNat_lt; have := b.toNat_lt; have := c.toNat_lt; have := d.toNat_lt; simp [num]; omega
theorem asInt_pos (l : List UInt8) (k : Bool) : 0 ≤ asInt (num (taken l k 4)) := by
  have h := num_lt4 _ (taken_le l k)
  rw [asInt_small _ (by omega)]; omega
theorem headB_mark (X : List UInt8) : restOf (markB ++ X) false 8 = X ∧ lackOf (markB ++ X) false 8 = false := by
  have h := taken_good (l := markB ++ X) (k := 8) (by simp [markB])
  refine ⟨h.2.1.trans ?_, h.2.2⟩
  rfl
/-- A head's bytes tell what they are of. -/
theorem headB_parse (e a u : Nat) (he : e < 18446744073709551616) (ha : a < 4294967296) (hu : u < 4294967296) : hdE (headB e a u) = e ∧ hdA (headB e a u) = a ∧ hdU (headB e a u) = u := by
  obtain ⟨R, hR⟩ : ∃ R, headB e a u = markB ++ (be 8 e ++ (be 4 a ++ (be 4 u ++ R))) := by
    unfold headB padB headX
    rw [u64nat_nat a (by omega), u64nat_nat u (by omega)]
    simp only [List.append_assoc]
    exact ⟨_, rfl⟩
  obtain ⟨h1, h2⟩ := headB_mark (be 8 e ++ (be 4 a ++ (be 4 u ++ R)))
  obtain ⟨h3, h4, h5⟩ := take_be 8 e (be 4 a ++ (be 4 u ++ R))
  obtain ⟨h6, h7, h8⟩ := take_be 4 a (be 4 u ++ R)
  obtain ⟨h9, h10, h11⟩ := take_be 4 u R
  rw [show ((8 : Nat) : Int) = 8 from rfl] at h3 h4 h5
  rw [show ((4 : Nat) : Int) = 4 from rfl] at h6 h7 h8 h9
  unfold hdE hdA hdU hdR
  rw [hR, h1, h2, h3, h4, h5, h6, h7, h8, h9, num_be 8 e (by omega), num_be 4 a (by omega), num_be 4 u (by omega), asInt_small _ (by omega), asInt_small _ (by omega)]
  refine ⟨by omega, ?_, ?_⟩ <;> congr 1 <;> omega
/-- A head's room, filled by operation j. -/
def HdX (T : TypeId) (q j : Nat) (V : Array Value) (listed : Array Bool) (w : World) : Prop :=
  (∃ C, w.heap[q]? = some (.cells C T (0, 0)) ∧ C.size = 3) ∧ (listed.getD j false = true → w.heap[q]? = some (.cells V T (0, 0)))
section
variable {T : TypeId} {q j i : Nat} {V C : Array Value} {listed : Array Bool} {w w' : World}
theorem hgetD_set_ne {l : Array Bool} {i j : Nat} (h : i ≠ j) : (l.setIfInBounds i true).getD j false = l.getD j false := by
  simp only [Array.getD_eq_getD_getElem?]
  rw [Array.getElem?_setIfInBounds_ne h]
theorem HdX.start (h : w.heap[q]? = some (.cells C T (0, 0))) (hc : C.size = 3) (n : Nat) : HdX T q j V (Array.replicate n false) w.drew := by
  refine ⟨⟨C, h, hc⟩, fun h1 => ?_⟩
  simp only [Array.getD_eq_getD_getElem?] at h1
  rcases Nat.lt_or_ge j n with h' | h'
  · simp [h'] at h1
  · simp [Nat.not_lt.2 h'] at h1
theorem HdX.same (h : HdX T q j V listed w) (hi : (i != j) = true) : HdX T q j V (listed.setIfInBounds i true) w := by
  refine ⟨h.1, fun h1 => h.2 ?_⟩
  rwa [hgetD_set_ne (by simpa using hi)] at h1
theorem HdX.pass (h : HdX T q j V listed w) (hb : Below w.heap.size w w') : HdX T q j V listed w' := by
  obtain ⟨⟨C, h1, h2⟩, h3⟩ := h
  have e := hb.block _ (block_lt h1)
  exact ⟨⟨C, e.trans h1, h2⟩, fun hh => e.trans (h3 hh)⟩
theorem HdX.one (hV : V.size = 3) (h1 : w'.heap[q]? = some (.cells V T (0, 0))) : HdX T q j V (listed.setIfInBounds j true) w' := ⟨⟨V, h1, hV⟩, fun _ => h1⟩
end
/-- What a read tells of a head. -/
def HdRes (s : DSt) (at_ : Nat) (w : World) (e : Ending) (w' : World) : Prop := ∃ (E : Nat) (a u : Int) (ok : Bool), e = .returned (.tuple #[.agg (headArr E a u), .bool ok]) ∧ Below w.heap.size w w' ∧
  (ok = true → s.read at_ = (headB E a u, 0) ∧ E < 18446744073709551616 ∧ 0 ≤ a ∧ a ≤ 1 ∧ 0 ≤ u ∧ u ≤ ((s.sec.length - 2) / 2 : Nat)) ∧
  (ok = false → ∀ E' a' u' : Nat, E' < 18446744073709551616 → a' ≤ 1 → u' ≤ (s.sec.length - 2) / 2 → s.read at_ ≠ (headB E' a' u', 0))
theorem readAny_any (p at_ : Nat) (s : DSt) (F : List Nat) (w : World) (h : Dk w p s F) (hat : at_ < s.sec.length) (h2 : 2 ≤ s.sec.length) (h3 : s.sec.length ≤ 1073741824) (hlen : (s.read at_).2 = 0 → (s.read at_).1.length = 64) :
    Calls Try.prog 71 #[.pointer (some ⟨p, 0, none⟩), .int .i64 at_] w (HdRes s at_ w) := by
  have H := hid h; clear h
  generalize hbe : w.heap.size = b
  have HBE := hid hbe; clear hbe
  go_enter Try.func71, Try.ntmps71
  go_wp2_with fail
  have hb1 : Below w.heap.size w (w.alloc (.cells (headArr 0 0 0) 116)) := (Below.refl _ _).alloc (Nat.le_refl _) _
  have hB0 : (w.alloc (.cells (headArr 0 0 0) 116)).heap[w.heap.size]? = some (.cells (headArr 0 0 0) 116 (0, 0)) := block_new _ _
  have HD1 := hid (H.out.below hb1)
  have HB1 := hid hb1; have HB0 := hid hB0
  clear hb1 hB0
  refine (read_any p at_ s F _ HD1.out hat).mono ?_
  rintro e w2 ⟨a2, n2, c2, rfl, hr2, hn2, hb2, hf2⟩
  obtain ⟨X, hX⟩ : ∃ X, s.read at_ = X := ⟨_, rfl⟩
  rw [hX] at hr2 hlen ⊢
  obtain ⟨B, ec⟩ := X
  dsimp only at hr2 hlen ⊢
  have HX := hid hX
  have HR2 := hid hr2; have HN2 := hid hn2; have HB2 := hid hb2; have HF2 := hid hf2; have HLEN := hid hlen
  clear hr2 hn2 hb2 hf2 hX hlen
  by_cases hec : ec = 0
  case neg =>
    have hez : (ec == 0) = false := by rw [beq_eq_false_iff_ne]; exact hec
    have HB02 := hid ((HB2.out.block _ (block_lt HB0.out)).trans HB0.out)
    have HZ := hid (HB1.out.trans (HB2.out.mono HB1.out.size))
    clear HB0 HB1 HB2 HR2 HLEN
    have HEC := hid hec
    clear hec
    go_wp2_with (first | (refine wpList_build_obj rfl 116 _ rfl #[] rfl (headArr 0 0 0) (by intro w; kernel_rfl) ?_) | (refine wpList_store_obj rfl 116 _ _ rfl w.heap.size rfl (headArr 0 0 0) rfl _ _ HB02.out rfl hSize (headArr_one 0 0 0) ?_; intro w3 hb3 hc3 hs3; have HB3 := hid hb3; have HC3 := hid hc3; clear hb3 hc3 hs3))
    refine bodyPost_ret (results_cell_tmpW rfl _ _ w.heap.size _ _ _ _ rfl HB3.out Try.underlying116 rfl hSize _ rfl) rfl ?_
    have hx := HZ.out.trans (HC3.out.below (fun k hk => by rw [List.mem_singleton.1 hk]; exact Nat.le_refl _) HZ.out.size)
    refine ⟨0, 0, 0, false, rfl, hx, (fun h => by cases h), fun _ E' a' u' _ _ _ he => ?_⟩
    rw [HX.out] at he
    exact HEC.out (congrArg Prod.snd he)
  obtain rfl := hec
  have hl2 : n2 = 64 := by rw [← HR2.out.len]; exact HLEN.out rfl
  subst hl2
  have HL64 := hid (HLEN.out rfl)
  clear HLEN
  go_wp2_with fail
  refine (oNewReader_any a2 64 c2 B _ HR2.out HN2.out (by decide)).mono ?_
  rintro e w3 ⟨q, F3, rfl, hq3, hF3, hb3⟩
  have HQ3 := hid hq3; have HF3 := hid hF3; have HB3 := hid hb3
  clear hq3 hF3 hb3
  go_wp2_with fail
  refine (oTake_any q B false F3 8 _ HQ3.out (by rw [HL64.out]; decide)).mono ?_
  rintro e w4 ⟨a4, n4, c4, rfl, ho4, hc4, F4, hq4, hf4⟩
  have HQ4 := hid hq4; have HC4 := hid hc4; have HFR4 := hid hf4
  have HLR := hid (rest_len B false 8)
  clear ho4 hc4 hq4 hf4
  go_wp2_with fail
  refine (oRU64_any q _ _ F4 _ HQ4.out (by have := HLR.out; rw [HL64.out] at this; omega)).mono ?_
  rintro e w5 ⟨rfl, hc5, F5, hq5, hf5⟩
  have HQ5 := hid hq5; have HC5 := hid hc5; have HFR5 := hid hf5
  have HLR2 := hid (Nat.le_trans (rest_len (restOf B false 8) (lackOf B false 8) 8) HLR.out)
  clear hc5 hq5 hf5
  obtain ⟨E, hE⟩ : ∃ E, hdE B = E := ⟨_, rfl⟩
  have HE := hid hE
  rw [show num (taken (restOf B false 8) (lackOf B false 8) 8) = E from hE]
  have HE64 : Hid (E < 18446744073709551616) := by show _ < _; rw [← hE]; exact num_lt _
  clear hE
  go_wp2_with fail
  refine (oRU32_any q _ _ F5 _ HQ5.out (by have := HLR2.out; rw [HL64.out] at this; omega)).mono ?_
  rintro e w6 ⟨rfl, hc6, F6, hq6, hf6⟩
  have HQ6 := hid hq6; have HC6 := hid hc6; have HFR6 := hid hf6
  have HLR3 := hid (Nat.le_trans (rest_len (hdR B).1 (hdR B).2 4) HLR2.out)
  clear hc6 hq6 hf6
  obtain ⟨a, hA⟩ : ∃ a, hdA B = a := ⟨_, rfl⟩
  have HA := hid hA
  rw [show asInt (num (taken (restOf (restOf B false 8) (lackOf B false 8) 8) (lackOf (restOf B false 8) (lackOf B false 8) 8) 4)) = a from hA]
  have HA0 : Hid (0 ≤ a) := by show _ ≤ _; rw [← hA]; exact asInt_pos _ _
  clear hA
  go_wp2_with fail
  refine (oRU32_any q _ _ F6 _ HQ6.out (by have := HLR3.out; rw [HL64.out] at this; exact Nat.le_trans this (by decide))).mono ?_
  rintro e w7 ⟨rfl, hc7, F7, hq7, hf7⟩
  obtain ⟨u, hU⟩ : ∃ u, hdU B = u := ⟨_, rfl⟩
  have HU := hid hU
  rw [show asInt (num (taken (restOf (restOf (restOf B false 8) (lackOf B false 8) 8) (lackOf (restOf B false 8) (lackOf B false 8) 8) 4) (lackOf (restOf (restOf B false 8) (lackOf B false 8) 8) (lackOf (restOf B false 8) (lackOf B false 8) 8) 4) 4)) = u from hU]
  have HU0 : Hid (0 ≤ u) := by show _ ≤ _; rw [← hU]; exact asInt_pos _ _
  clear hU
  have B27 : Hid (Below w2.heap.size w2 w7) := by
    have c7 := ((HC4.out.trans HC5.out (fun k hk => .inl hk)).trans HC6.out (fun k hk => .inl hk)).trans hc7 (fun k hk => .inl hk)
    exact HB3.out.trans (c7.below (fun k hk => by rw [List.mem_singleton.1 hk]; obtain ⟨_, _, _, _, _, _, _, _, _, hF⟩ := HQ3.out; exact HF3.out q (by rw [hF]; simp)) HB3.out.size)
  clear hc7 hq7 hf7 HC4 HC5 HC6 HFR4 HFR5 HFR6 HQ4 HQ5 HQ6 HQ3 HF3 HB3 HLR HLR2 HLR3
  have HD7 := hid ((HD1.out.below HB2.out).below B27.out)
  have HR7 := hid (HR2.out.below B27.out)
  have HB07 := hid ((B27.out.block _ (by have := block_lt HB0.out; have := HB2.out.size; omega)).trans ((HB2.out.block _ (block_lt HB0.out)).trans HB0.out))
  have HB17 := hid (HB1.out.trans ((HB2.out.mono HB1.out.size).trans (B27.out.mono (Nat.le_trans HB1.out.size HB2.out.size))))
  clear HD1 HR2 HB0 HB1 HB2 B27
  go_upto_region 7 with (first | (refine wpList_build_obj rfl 116 _ rfl _ rfl (headArr E a u) (by intro w; kernel_rfl) ?_) | (refine wpList_alloc_obj rfl 116 rfl _ hZero ?_) | (refine wpList_store_obj rfl 116 _ _ rfl w7.heap.size rfl (headArr E a u) rfl _ _ (block_new w7 _) rfl hSize (headArr_one E a u) ?_; intro w8 hb8 hc8 hs8; have HB8 := hid hb8; have HC8 := hid hc8; clear hb8 hc8 hs8))
  have B78 : Hid (Below w7.heap.size w7 w8) := ((Below.refl _ w7).alloc (Nat.le_refl _) _).trans (HC8.out.below (fun k hk => by rw [List.mem_singleton.1 hk]; exact Nat.le_refl _) (by simp))
  have HR8 := hid (HR7.out.below B78.out)
  have HD8 := hid (HD7.out.below B78.out)
  have HB08 := hid ((B78.out.block _ (block_lt HB07.out)).trans HB07.out)
  have HB18 := hid (HB17.out.trans (B78.out.mono HB17.out.size))
  have HPN0 : Hid (w7.heap.size ≠ w.heap.size) := by have := block_lt HB07.out; show _ ≠ _; omega
  have HA2 : Hid (∀ q off sp, a2 = some ⟨q, off, sp⟩ → q ≠ w.heap.size) := fun q off sp hq => by have := (HF2.out q off sp hq).1; simp at this; omega
  have HFW : Hid (w.heap.size ∉ F) := fun hm => by have := Dk.lt H.out _ hm; omega
  clear HC8 HR7 HB07 HB17 B78 HD7
  generalize w7.heap.size = px at *
  have HPN : Hid (px ≠ w.heap.size) := HPN0.out
  obtain ⟨HF, hHF⟩ : ∃ n, (s.sec.length - 2) / 2 = n := ⟨_, rfl⟩
  have HHF := hid hHF
  have hfb : HF ≤ 1073741824 := by omega
  clear hHF
  by_cases k1 : B = headB E a u
  case neg =>
    have HC1 := hid k1
    clear k1
    refine wp_region_eachX (m := 19) (Chg [w.heap.size]) [.eq (.agg (headArr E a u)), .eq (.slice a2 64 c2), .eq (.agg (headArr E a u)), stB64 w.heap.size (headB E a u), .eq (.bool false), .eq (.bool false), .eq undef, .eq undef, .eq undef, .eq (.bool false), .eq (.bool false), .eq undef, .eq undef, .eq undef, .eq undef, .eq undef, .eq (.bool false), .eq (undef), .eq (.bool false)] (HdX 116 w.heap.size 17 (headArr E a u)) (by kernel_rfl) (by kernel_rfl) (by kernel_rfl) (by kernel_rfl) (Chg.trans1') (by exact (Chg.refl _ _).drew) (by exact HdX.start HB08.out rfl _) ?_ ?_
    · as_aux_lemma =>
        refine each_5 ?_ ?_ ?_ ?_ ?_ (each_5 ?_ ?_ ?_ ?_ ?_ (each_5 ?_ ?_ ?_ ?_ ?_ (each_c ?_ (each_c ?_ (each_c ?_ (each_c ?_ (each_n)))))))
        · intro w1 hg listed up hx Ar seen
          have s9 := seen.sl 9 (.pointer (some ⟨px, 0, none⟩))
          refine doesY_plain rfl fun K Q' hK => ?_
          refine wp_load_row 116 _ rfl px (by simp [Act.eval, s9]) _ _ _ _ ((hg.block _ (block_lt HB8.out) (by simp; exact HPN.out)).trans HB8.out) Try.underlying116 rfl hSize ?_
          exact hK _ _ (Chg.refl _ _) (hx.same (by kernel_rfl)) rfl
        · intro w1 hg listed up hx Ar seen
          have s6 := seen.sl 6 (.slice a2 64 c2)
          refine doesY_plain rfl fun K Q' hK => ?_
          go_simp; exact hK _ _ (Chg.refl _ _) (hx.same (by kernel_rfl)) rfl
        · intro w1 hg listed up hx Ar seen
          have s9 := seen.sl 9 (.pointer (some ⟨px, 0, none⟩))
          refine doesY_plain rfl fun K Q' hK => ?_
          refine wp_load_row 116 _ rfl px (by simp [Act.eval, s9]) _ _ _ _ ((hg.block _ (block_lt HB8.out) (by simp; exact HPN.out)).trans HB8.out) Try.underlying116 rfl hSize ?_
          exact hK _ _ (Chg.refl _ _) (hx.same (by kernel_rfl)) rfl
        · intro w1 hg listed up hx Ar seen
          have e2 := seen.de 2 32
          refine doesY_plain rfl fun K Q' hK => ?_
          obtain ⟨C0, hC0, -⟩ := hx.1
          have hlt := block_lt hC0
          go_simp
          refine (headBytes_any E a u _ HE64.out).mono ?_
          rintro e u' ⟨a', c', rfl, ho, hb⟩
          exact hK _ _ (Chg.of_below hb _) ((hx.pass hb).same (by kernel_rfl)) ⟨a', c', rfl, RdB.of_own ho, fun q off sp hq hqe => by have := (ho.lt q (by rw [hq]; rfl)).1; omega⟩
        · intro w1 hg listed up hx Ar seen
          have e1 := seen.de 1 31
          obtain ⟨v3, e3, h3⟩ := seen.dp 3 33
          refine doesY_plain rfl fun K Q' hK => ?_
          obtain ⟨a', c', rfl, h3, -⟩ := h3
          go_simp
          refine (equalB_any a2 a' 64 c2 64 c' B (headB E a u) _ (hg.rdB HR8.out (fun q off sp hq hm => HA2.out q off sp hq (List.mem_singleton.1 hm))) h3 (by decide)).mono ?_
          rintro e u' ⟨rfl, hb⟩
          exact hK _ _ (Chg.of_below hb _) ((hx.pass hb).same (by kernel_rfl)) (congrArg Value.bool (decide_eq_false HC1.out))
        · intro w1 hg listed up hx Ar seen
          have e4 := seen.de 4 34
          refine doesY_plain rfl fun K Q' hK => ?_
          go_simp; exact hK _ _ (Chg.refl _ _) (hx.same (by kernel_rfl)) rfl
        · intro w1 hg listed up hx Ar seen
          have e5 := seen.de 5 35
          exact doesY_off rfl (by kernel_rfl) e5 ne_ft (Chg.refl _ _) (hx.same (by kernel_rfl)) rfl
        · intro w1 hg listed up hx Ar seen
          have e5 := seen.de 5 35
          exact doesY_off rfl (by kernel_rfl) e5 ne_ft (Chg.refl _ _) (hx.same (by kernel_rfl)) rfl
        · intro w1 hg listed up hx Ar seen
          have e5 := seen.de 5 35
          exact doesY_off rfl (by kernel_rfl) e5 ne_ft (Chg.refl _ _) (hx.same (by kernel_rfl)) rfl
        · intro w1 hg listed up hx Ar seen
          have e5 := seen.de 5 35
          have e8 := seen.de 8 38
          refine doesY_plain rfl fun K Q' hK => ?_
          go_simp; exact hK _ _ (Chg.refl _ _) (hx.same (by kernel_rfl)) rfl
        · intro w1 hg listed up hx Ar seen
          have e9 := seen.de 9 39
          refine doesY_plain rfl fun K Q' hK => ?_
          go_simp; exact hK _ _ (Chg.refl _ _) (hx.same (by kernel_rfl)) rfl
        · intro w1 hg listed up hx Ar seen
          have e10 := seen.de 10 40
          exact doesY_off rfl (by kernel_rfl) e10 ne_ft (Chg.refl _ _) (hx.same (by kernel_rfl)) rfl
        · intro w1 hg listed up hx Ar seen
          have e10 := seen.de 10 40
          exact doesY_off rfl (by kernel_rfl) e10 ne_ft (Chg.refl _ _) (hx.same (by kernel_rfl)) rfl
        · intro w1 hg listed up hx Ar seen
          have e10 := seen.de 10 40
          exact doesY_off rfl (by kernel_rfl) e10 ne_ft (Chg.refl _ _) (hx.same (by kernel_rfl)) rfl
        · intro w1 hg listed up hx Ar seen
          have e10 := seen.de 10 40
          exact doesY_off rfl (by kernel_rfl) e10 ne_ft (Chg.refl _ _) (hx.same (by kernel_rfl)) rfl
        · intro w1 hg listed up hx Ar seen
          have e10 := seen.de 10 40
          exact doesY_off rfl (by kernel_rfl) e10 ne_ft (Chg.refl _ _) (hx.same (by kernel_rfl)) rfl
        · intro w1 hg listed up hx Ar seen
          have e10 := seen.de 10 40
          have e15 := seen.de 15 45
          refine doesY_plain rfl fun K Q' hK => ?_
          go_simp; exact hK _ _ (Chg.refl _ _) (hx.same (by kernel_rfl)) rfl
        · intro w1 hg listed up hx Ar seen
          have e0 := seen.de 0 30
          have s4 := seen.sl 4 (.pointer (some ⟨w.heap.size, 0, none⟩))
          refine doesY_plain rfl fun K Q' hK => ?_
          obtain ⟨C, hC, hCs⟩ := hx.1
          refine wp_store_obj 116 _ _ rfl w.heap.size (by simp [Act.eval, s4]) (headArr E a u) (by simp [Act.eval, e0]) C _ hC hCs hSize (headArr_one E a u) ?_
          intro w2 hb2 hc2 hs2
          exact hK undef _ hc2 (HdX.one rfl hb2) rfl
        · intro w1 hg listed up hx Ar seen
          have e16 := seen.de 16 46
          refine doesY_plain rfl fun K Q' hK => ?_
          go_simp; exact hK _ _ (Chg.refl _ _) (hx.same (by kernel_rfl)) rfl
    intro w1 hg listed hl hx
    refine upon_w' (js := [0, 1, 2, 3, 4, 5, 6, 7, 8, 9, 10, 11, 12, 13, 14, 15, 16, 17, 18]) (by rfl) ?_
    refine upon_e (some 30) (upon_e (some 31) (upon_e (some 32) (upon_v (some 33) fun v3 h3 => upon_e (some 34) (upon_e (some 35) (upon_e (some 36) (upon_e (some 37) (upon_e (some 38) (upon_e (some 39) (upon_e (some 40) (upon_e (some 41) (upon_e (some 42) (upon_e (some 43) (upon_e (some 44) (upon_e (some 45) (upon_e (some 46) (upon_e none (upon_e (some 5) (upon_n ?_))))))))))))))))))
    go_simp
    have hx2 : w1.heap[w.heap.size]? = some (.cells (headArr E a u) 116 (0, 0)) := hx.2 (hl 17 (by decide))
    have hbz : Below w.heap.size w w1 := HB18.out.trans (hg.below (fun q hq => by rw [List.mem_singleton.1 hq]; exact Nat.le_refl _) HB18.out.size)
    have HBZ := hid hbz
    clear hbz hg hx hl h3
    go_wp2_with fail
    refine bodyPost_ret (results_cell_tmpW rfl _ _ w.heap.size _ _ _ _ rfl hx2 Try.underlying116 rfl hSize _ rfl) rfl ?_
    refine ⟨E, a, u, false, rfl, HBZ.out, (fun h => by cases h), fun _ E' a' u' he' ha' hu' he => ?_⟩
    rw [HX.out] at he
    have hB : B = headB E' a' u' := congrArg Prod.fst he
    rw [HHF.out] at hu'
    obtain ⟨p1, p2, p3⟩ := headB_parse E' a' u' he' (by omega) (by omega)
    rw [← hB, HE.out] at p1
    rw [← hB, HA.out] at p2
    rw [← hB, HU.out] at p3
    exact HC1.out (by rw [hB, p1, p2, p3])
  have HC1 := hid k1
  clear k1
  by_cases k2 : a ≤ 1
  case neg =>
    have HC2 := hid k2
    refine wp_region_eachX (m := 19) (Chg [w.heap.size]) [.eq (.agg (headArr E a u)), .eq (.slice a2 64 c2), .eq (.agg (headArr E a u)), stB64 w.heap.size (headB E a u), .eq (.bool true), .eq (.bool true), .eq (.pointer (some ⟨px, 1, none⟩)), .eq (.int .i64 a), .eq (.bool false), .eq (.bool false), .eq (.bool false), .eq undef, .eq undef, .eq undef, .eq undef, .eq undef, .eq (.bool false), .eq (undef), .eq (.bool false)] (HdX 116 w.heap.size 17 (headArr E a u)) (by kernel_rfl) (by kernel_rfl) (by kernel_rfl) (by kernel_rfl) (Chg.trans1') (by exact (Chg.refl _ _).drew) (by exact HdX.start HB08.out rfl _) ?_ ?_
    · as_aux_lemma =>
        refine each_5 ?_ ?_ ?_ ?_ ?_ (each_5 ?_ ?_ ?_ ?_ ?_ (each_5 ?_ ?_ ?_ ?_ ?_ (each_c ?_ (each_c ?_ (each_c ?_ (each_c ?_ (each_n)))))))
        · intro w1 hg listed up hx Ar seen
          have s9 := seen.sl 9 (.pointer (some ⟨px, 0, none⟩))
          refine doesY_plain rfl fun K Q' hK => ?_
          refine wp_load_row 116 _ rfl px (by simp [Act.eval, s9]) _ _ _ _ ((hg.block _ (block_lt HB8.out) (by simp; exact HPN.out)).trans HB8.out) Try.underlying116 rfl hSize ?_
          exact hK _ _ (Chg.refl _ _) (hx.same (by kernel_rfl)) rfl
        · intro w1 hg listed up hx Ar seen
          have s6 := seen.sl 6 (.slice a2 64 c2)
          refine doesY_plain rfl fun K Q' hK => ?_
          go_simp; exact hK _ _ (Chg.refl _ _) (hx.same (by kernel_rfl)) rfl
        · intro w1 hg listed up hx Ar seen
          have s9 := seen.sl 9 (.pointer (some ⟨px, 0, none⟩))
          refine doesY_plain rfl fun K Q' hK => ?_
          refine wp_load_row 116 _ rfl px (by simp [Act.eval, s9]) _ _ _ _ ((hg.block _ (block_lt HB8.out) (by simp; exact HPN.out)).trans HB8.out) Try.underlying116 rfl hSize ?_
          exact hK _ _ (Chg.refl _ _) (hx.same (by kernel_rfl)) rfl
        · intro w1 hg listed up hx Ar seen
          have e2 := seen.de 2 32
          refine doesY_plain rfl fun K Q' hK => ?_
          obtain ⟨C0, hC0, -⟩ := hx.1
          have hlt := block_lt hC0
          go_simp
          refine (headBytes_any E a u _ HE64.out).mono ?_
          rintro e u' ⟨a', c', rfl, ho, hb⟩
          exact hK _ _ (Chg.of_below hb _) ((hx.pass hb).same (by kernel_rfl)) ⟨a', c', rfl, RdB.of_own ho, fun q off sp hq hqe => by have := (ho.lt q (by rw [hq]; rfl)).1; omega⟩
        · intro w1 hg listed up hx Ar seen
          have e1 := seen.de 1 31
          obtain ⟨v3, e3, h3⟩ := seen.dp 3 33
          refine doesY_plain rfl fun K Q' hK => ?_
          obtain ⟨a', c', rfl, h3, -⟩ := h3
          go_simp
          refine (equalB_any a2 a' 64 c2 64 c' B (headB E a u) _ (hg.rdB HR8.out (fun q off sp hq hm => HA2.out q off sp hq (List.mem_singleton.1 hm))) h3 (by decide)).mono ?_
          rintro e u' ⟨rfl, hb⟩
          exact hK _ _ (Chg.of_below hb _) ((hx.pass hb).same (by kernel_rfl)) (congrArg Value.bool (decide_eq_true HC1.out))
        · intro w1 hg listed up hx Ar seen
          have e4 := seen.de 4 34
          refine doesY_plain rfl fun K Q' hK => ?_
          go_simp; exact hK _ _ (Chg.refl _ _) (hx.same (by kernel_rfl)) rfl
        · intro w1 hg listed up hx Ar seen
          have e5 := seen.de 5 35
          have s9 := seen.sl 9 (.pointer (some ⟨px, 0, none⟩))
          refine doesY_on rfl (by kernel_rfl) e5 fun K Q' hK => ?_
          clear e5
          go_simp; exact hK _ _ (Chg.refl _ _) (hx.same (by kernel_rfl)) rfl
        · intro w1 hg listed up hx Ar seen
          have e6 := seen.de 6 36
          have e5 := seen.de 5 35
          refine doesY_on rfl (by kernel_rfl) e5 fun K Q' hK => ?_
          clear e5
          have hc : w1.cell? ⟨px, 1, none⟩ = some (.int .i64 a) := cell_of_block (j := 1) ((hg.block _ (block_lt HB8.out) (by simp; exact HPN.out)).trans HB8.out) rfl
          go_simp; exact hK _ _ (Chg.refl _ _) (hx.same (by kernel_rfl)) rfl
        · intro w1 hg listed up hx Ar seen
          have e7 := seen.de 7 37
          have e5 := seen.de 5 35
          refine doesY_on rfl (by kernel_rfl) e5 fun K Q' hK => ?_
          clear e5
          have hc := HC2.out
          go_simp; exact hK _ _ (Chg.refl _ _) (hx.same (by kernel_rfl)) rfl
        · intro w1 hg listed up hx Ar seen
          have e5 := seen.de 5 35
          have e8 := seen.de 8 38
          refine doesY_plain rfl fun K Q' hK => ?_
          go_simp; exact hK _ _ (Chg.refl _ _) (hx.same (by kernel_rfl)) rfl
        · intro w1 hg listed up hx Ar seen
          have e9 := seen.de 9 39
          refine doesY_plain rfl fun K Q' hK => ?_
          go_simp; exact hK _ _ (Chg.refl _ _) (hx.same (by kernel_rfl)) rfl
        · intro w1 hg listed up hx Ar seen
          have e10 := seen.de 10 40
          exact doesY_off rfl (by kernel_rfl) e10 ne_ft (Chg.refl _ _) (hx.same (by kernel_rfl)) rfl
        · intro w1 hg listed up hx Ar seen
          have e10 := seen.de 10 40
          exact doesY_off rfl (by kernel_rfl) e10 ne_ft (Chg.refl _ _) (hx.same (by kernel_rfl)) rfl
        · intro w1 hg listed up hx Ar seen
          have e10 := seen.de 10 40
          exact doesY_off rfl (by kernel_rfl) e10 ne_ft (Chg.refl _ _) (hx.same (by kernel_rfl)) rfl
        · intro w1 hg listed up hx Ar seen
          have e10 := seen.de 10 40
          exact doesY_off rfl (by kernel_rfl) e10 ne_ft (Chg.refl _ _) (hx.same (by kernel_rfl)) rfl
        · intro w1 hg listed up hx Ar seen
          have e10 := seen.de 10 40
          exact doesY_off rfl (by kernel_rfl) e10 ne_ft (Chg.refl _ _) (hx.same (by kernel_rfl)) rfl
        · intro w1 hg listed up hx Ar seen
          have e10 := seen.de 10 40
          have e15 := seen.de 15 45
          refine doesY_plain rfl fun K Q' hK => ?_
          go_simp; exact hK _ _ (Chg.refl _ _) (hx.same (by kernel_rfl)) rfl
        · intro w1 hg listed up hx Ar seen
          have e0 := seen.de 0 30
          have s4 := seen.sl 4 (.pointer (some ⟨w.heap.size, 0, none⟩))
          refine doesY_plain rfl fun K Q' hK => ?_
          obtain ⟨C, hC, hCs⟩ := hx.1
          refine wp_store_obj 116 _ _ rfl w.heap.size (by simp [Act.eval, s4]) (headArr E a u) (by simp [Act.eval, e0]) C _ hC hCs hSize (headArr_one E a u) ?_
          intro w2 hb2 hc2 hs2
          exact hK undef _ hc2 (HdX.one rfl hb2) rfl
        · intro w1 hg listed up hx Ar seen
          have e16 := seen.de 16 46
          refine doesY_plain rfl fun K Q' hK => ?_
          go_simp; exact hK _ _ (Chg.refl _ _) (hx.same (by kernel_rfl)) rfl
    intro w1 hg listed hl hx
    refine upon_w' (js := [0, 1, 2, 3, 4, 5, 6, 7, 8, 9, 10, 11, 12, 13, 14, 15, 16, 17, 18]) (by rfl) ?_
    refine upon_e (some 30) (upon_e (some 31) (upon_e (some 32) (upon_v (some 33) fun v3 h3 => upon_e (some 34) (upon_e (some 35) (upon_e (some 36) (upon_e (some 37) (upon_e (some 38) (upon_e (some 39) (upon_e (some 40) (upon_e (some 41) (upon_e (some 42) (upon_e (some 43) (upon_e (some 44) (upon_e (some 45) (upon_e (some 46) (upon_e none (upon_e (some 5) (upon_n ?_))))))))))))))))))
    go_simp
    have hx2 : w1.heap[w.heap.size]? = some (.cells (headArr E a u) 116 (0, 0)) := hx.2 (hl 17 (by decide))
    have hbz : Below w.heap.size w w1 := HB18.out.trans (hg.below (fun q hq => by rw [List.mem_singleton.1 hq]; exact Nat.le_refl _) HB18.out.size)
    have HBZ := hid hbz
    clear hbz hg hx hl h3
    go_wp2_with fail
    refine bodyPost_ret (results_cell_tmpW rfl _ _ w.heap.size _ _ _ _ rfl hx2 Try.underlying116 rfl hSize _ rfl) rfl ?_
    refine ⟨E, a, u, false, rfl, HBZ.out, (fun h => by cases h), fun _ E' a' u' he' ha' hu' he => ?_⟩
    rw [HX.out] at he
    have hB : B = headB E' a' u' := congrArg Prod.fst he
    rw [HHF.out] at hu'
    obtain ⟨p1, p2, p3⟩ := headB_parse E' a' u' he' (by omega) (by omega)
    rw [← hB, HE.out] at p1
    rw [← hB, HA.out] at p2
    rw [← hB, HU.out] at p3
    have := HC2.out; omega
  have HC2 := hid k2
  by_cases k3 : u ≤ (HF : Int)
  case neg =>
    have HC3 := hid k3
    refine wp_region_eachX (m := 19) (Chg [w.heap.size]) [.eq (.agg (headArr E a u)), .eq (.slice a2 64 c2), .eq (.agg (headArr E a u)), stB64 w.heap.size (headB E a u), .eq (.bool true), .eq (.bool true), .eq (.pointer (some ⟨px, 1, none⟩)), .eq (.int .i64 a), .eq (.bool true), .eq (.bool true), .eq (.bool true), .eq (.pointer (some ⟨px, 2, none⟩)), .eq (.int .i64 u), .eq (.pointer (some ⟨p, 0, none⟩)), .eq (.int .i64 (HF : Int)), .eq (.bool false), .eq (.bool false), .eq (undef), .eq (.bool false)] (HdX 116 w.heap.size 17 (headArr E a u)) (by kernel_rfl) (by kernel_rfl) (by kernel_rfl) (by kernel_rfl) (Chg.trans1') (by exact (Chg.refl _ _).drew) (by exact HdX.start HB08.out rfl _) ?_ ?_
    · as_aux_lemma =>
        refine each_5 ?_ ?_ ?_ ?_ ?_ (each_5 ?_ ?_ ?_ ?_ ?_ (each_5 ?_ ?_ ?_ ?_ ?_ (each_c ?_ (each_c ?_ (each_c ?_ (each_c ?_ (each_n)))))))
        · intro w1 hg listed up hx Ar seen
          have s9 := seen.sl 9 (.pointer (some ⟨px, 0, none⟩))
          refine doesY_plain rfl fun K Q' hK => ?_
          refine wp_load_row 116 _ rfl px (by simp [Act.eval, s9]) _ _ _ _ ((hg.block _ (block_lt HB8.out) (by simp; exact HPN.out)).trans HB8.out) Try.underlying116 rfl hSize ?_
          exact hK _ _ (Chg.refl _ _) (hx.same (by kernel_rfl)) rfl
        · intro w1 hg listed up hx Ar seen
          have s6 := seen.sl 6 (.slice a2 64 c2)
          refine doesY_plain rfl fun K Q' hK => ?_
          go_simp; exact hK _ _ (Chg.refl _ _) (hx.same (by kernel_rfl)) rfl
        · intro w1 hg listed up hx Ar seen
          have s9 := seen.sl 9 (.pointer (some ⟨px, 0, none⟩))
          refine doesY_plain rfl fun K Q' hK => ?_
          refine wp_load_row 116 _ rfl px (by simp [Act.eval, s9]) _ _ _ _ ((hg.block _ (block_lt HB8.out) (by simp; exact HPN.out)).trans HB8.out) Try.underlying116 rfl hSize ?_
          exact hK _ _ (Chg.refl _ _) (hx.same (by kernel_rfl)) rfl
        · intro w1 hg listed up hx Ar seen
          have e2 := seen.de 2 32
          refine doesY_plain rfl fun K Q' hK => ?_
          obtain ⟨C0, hC0, -⟩ := hx.1
          have hlt := block_lt hC0
          go_simp
          refine (headBytes_any E a u _ HE64.out).mono ?_
          rintro e u' ⟨a', c', rfl, ho, hb⟩
          exact hK _ _ (Chg.of_below hb _) ((hx.pass hb).same (by kernel_rfl)) ⟨a', c', rfl, RdB.of_own ho, fun q off sp hq hqe => by have := (ho.lt q (by rw [hq]; rfl)).1; omega⟩
        · intro w1 hg listed up hx Ar seen
          have e1 := seen.de 1 31
          obtain ⟨v3, e3, h3⟩ := seen.dp 3 33
          refine doesY_plain rfl fun K Q' hK => ?_
          obtain ⟨a', c', rfl, h3, -⟩ := h3
          go_simp
          refine (equalB_any a2 a' 64 c2 64 c' B (headB E a u) _ (hg.rdB HR8.out (fun q off sp hq hm => HA2.out q off sp hq (List.mem_singleton.1 hm))) h3 (by decide)).mono ?_
          rintro e u' ⟨rfl, hb⟩
          exact hK _ _ (Chg.of_below hb _) ((hx.pass hb).same (by kernel_rfl)) (congrArg Value.bool (decide_eq_true HC1.out))
        · intro w1 hg listed up hx Ar seen
          have e4 := seen.de 4 34
          refine doesY_plain rfl fun K Q' hK => ?_
          go_simp; exact hK _ _ (Chg.refl _ _) (hx.same (by kernel_rfl)) rfl
        · intro w1 hg listed up hx Ar seen
          have e5 := seen.de 5 35
          have s9 := seen.sl 9 (.pointer (some ⟨px, 0, none⟩))
          refine doesY_on rfl (by kernel_rfl) e5 fun K Q' hK => ?_
          clear e5
          go_simp; exact hK _ _ (Chg.refl _ _) (hx.same (by kernel_rfl)) rfl
        · intro w1 hg listed up hx Ar seen
          have e6 := seen.de 6 36
          have e5 := seen.de 5 35
          refine doesY_on rfl (by kernel_rfl) e5 fun K Q' hK => ?_
          clear e5
          have hc : w1.cell? ⟨px, 1, none⟩ = some (.int .i64 a) := cell_of_block (j := 1) ((hg.block _ (block_lt HB8.out) (by simp; exact HPN.out)).trans HB8.out) rfl
          go_simp; exact hK _ _ (Chg.refl _ _) (hx.same (by kernel_rfl)) rfl
        · intro w1 hg listed up hx Ar seen
          have e7 := seen.de 7 37
          have e5 := seen.de 5 35
          refine doesY_on rfl (by kernel_rfl) e5 fun K Q' hK => ?_
          clear e5
          have hc := HC2.out
          go_simp; exact hK _ _ (Chg.refl _ _) (hx.same (by kernel_rfl)) rfl
        · intro w1 hg listed up hx Ar seen
          have e5 := seen.de 5 35
          have e8 := seen.de 8 38
          refine doesY_plain rfl fun K Q' hK => ?_
          go_simp; exact hK _ _ (Chg.refl _ _) (hx.same (by kernel_rfl)) rfl
        · intro w1 hg listed up hx Ar seen
          have e9 := seen.de 9 39
          refine doesY_plain rfl fun K Q' hK => ?_
          go_simp; exact hK _ _ (Chg.refl _ _) (hx.same (by kernel_rfl)) rfl
        · intro w1 hg listed up hx Ar seen
          have e10 := seen.de 10 40
          have s9 := seen.sl 9 (.pointer (some ⟨px, 0, none⟩))
          refine doesY_on rfl (by kernel_rfl) e10 fun K Q' hK => ?_
          clear e10
          go_simp; exact hK _ _ (Chg.refl _ _) (hx.same (by kernel_rfl)) rfl
        · intro w1 hg listed up hx Ar seen
          have e11 := seen.de 11 41
          have e10 := seen.de 10 40
          refine doesY_on rfl (by kernel_rfl) e10 fun K Q' hK => ?_
          clear e10
          have hc : w1.cell? ⟨px, 2, none⟩ = some (.int .i64 u) := cell_of_block (j := 2) ((hg.block _ (block_lt HB8.out) (by simp; exact HPN.out)).trans HB8.out) rfl
          go_simp; exact hK _ _ (Chg.refl _ _) (hx.same (by kernel_rfl)) rfl
        · intro w1 hg listed up hx Ar seen
          have e10 := seen.de 10 40
          have s0 := seen.sl 0 (.pointer (some ⟨p, 0, none⟩))
          refine doesY_on rfl (by kernel_rfl) e10 fun K Q' hK => ?_
          clear e10
          go_simp; exact hK _ _ (Chg.refl _ _) (hx.same (by kernel_rfl)) rfl
        · intro w1 hg listed up hx Ar seen
          have e13 := seen.de 13 43
          have e10 := seen.de 10 40
          refine doesY_on rfl (by kernel_rfl) e10 fun K Q' hK => ?_
          clear e10
          go_simp
          refine (half_any p s F _ (HD8.out.keep hg (fun k hk hm => HFW.out (by rw [List.mem_singleton.1 hm] at hk; exact hk))) h2 (by omega)).mono ?_
          rintro e u' ⟨rfl, rfl⟩
          rw [HHF.out]
          exact hK _ _ (Chg.refl _ _) (hx.same (by kernel_rfl)) rfl
        · intro w1 hg listed up hx Ar seen
          have e12 := seen.de 12 42
          have e14 := seen.de 14 44
          have e10 := seen.de 10 40
          refine doesY_on rfl (by kernel_rfl) e10 fun K Q' hK => ?_
          clear e10
          have hc := HC3.out
          go_simp; exact hK _ _ (Chg.refl _ _) (hx.same (by kernel_rfl)) rfl
        · intro w1 hg listed up hx Ar seen
          have e10 := seen.de 10 40
          have e15 := seen.de 15 45
          refine doesY_plain rfl fun K Q' hK => ?_
          go_simp; exact hK _ _ (Chg.refl _ _) (hx.same (by kernel_rfl)) rfl
        · intro w1 hg listed up hx Ar seen
          have e0 := seen.de 0 30
          have s4 := seen.sl 4 (.pointer (some ⟨w.heap.size, 0, none⟩))
          refine doesY_plain rfl fun K Q' hK => ?_
          obtain ⟨C, hC, hCs⟩ := hx.1
          refine wp_store_obj 116 _ _ rfl w.heap.size (by simp [Act.eval, s4]) (headArr E a u) (by simp [Act.eval, e0]) C _ hC hCs hSize (headArr_one E a u) ?_
          intro w2 hb2 hc2 hs2
          exact hK undef _ hc2 (HdX.one rfl hb2) rfl
        · intro w1 hg listed up hx Ar seen
          have e16 := seen.de 16 46
          refine doesY_plain rfl fun K Q' hK => ?_
          go_simp; exact hK _ _ (Chg.refl _ _) (hx.same (by kernel_rfl)) rfl
    intro w1 hg listed hl hx
    refine upon_w' (js := [0, 1, 2, 3, 4, 5, 6, 7, 8, 9, 10, 11, 12, 13, 14, 15, 16, 17, 18]) (by rfl) ?_
    refine upon_e (some 30) (upon_e (some 31) (upon_e (some 32) (upon_v (some 33) fun v3 h3 => upon_e (some 34) (upon_e (some 35) (upon_e (some 36) (upon_e (some 37) (upon_e (some 38) (upon_e (some 39) (upon_e (some 40) (upon_e (some 41) (upon_e (some 42) (upon_e (some 43) (upon_e (some 44) (upon_e (some 45) (upon_e (some 46) (upon_e none (upon_e (some 5) (upon_n ?_))))))))))))))))))
    go_simp
    have hx2 : w1.heap[w.heap.size]? = some (.cells (headArr E a u) 116 (0, 0)) := hx.2 (hl 17 (by decide))
    have hbz : Below w.heap.size w w1 := HB18.out.trans (hg.below (fun q hq => by rw [List.mem_singleton.1 hq]; exact Nat.le_refl _) HB18.out.size)
    have HBZ := hid hbz
    clear hbz hg hx hl h3
    go_wp2_with fail
    refine bodyPost_ret (results_cell_tmpW rfl _ _ w.heap.size _ _ _ _ rfl hx2 Try.underlying116 rfl hSize _ rfl) rfl ?_
    refine ⟨E, a, u, false, rfl, HBZ.out, (fun h => by cases h), fun _ E' a' u' he' ha' hu' he => ?_⟩
    rw [HX.out] at he
    have hB : B = headB E' a' u' := congrArg Prod.fst he
    rw [HHF.out] at hu'
    obtain ⟨p1, p2, p3⟩ := headB_parse E' a' u' he' (by omega) (by omega)
    rw [← hB, HE.out] at p1
    rw [← hB, HA.out] at p2
    rw [← hB, HU.out] at p3
    have := HC3.out; omega
  have HC3 := hid k3
  refine wp_region_eachX (m := 19) (Chg [w.heap.size]) [.eq (.agg (headArr E a u)), .eq (.slice a2 64 c2), .eq (.agg (headArr E a u)), stB64 w.heap.size (headB E a u), .eq (.bool true), .eq (.bool true), .eq (.pointer (some ⟨px, 1, none⟩)), .eq (.int .i64 a), .eq (.bool true), .eq (.bool true), .eq (.bool true), .eq (.pointer (some ⟨px, 2, none⟩)), .eq (.int .i64 u), .eq (.pointer (some ⟨p, 0, none⟩)), .eq (.int .i64 (HF : Int)), .eq (.bool true), .eq (.bool true), .eq (undef), .eq (.bool true)] (HdX 116 w.heap.size 17 (headArr E a u)) (by kernel_rfl) (by kernel_rfl) (by kernel_rfl) (by kernel_rfl) (Chg.trans1') (by exact (Chg.refl _ _).drew) (by exact HdX.start HB08.out rfl _) ?_ ?_
  · as_aux_lemma =>
      refine each_5 ?_ ?_ ?_ ?_ ?_ (each_5 ?_ ?_ ?_ ?_ ?_ (each_5 ?_ ?_ ?_ ?_ ?_ (each_c ?_ (each_c ?_ (each_c ?_ (each_c ?_ (each_n)))))))
      · intro w1 hg listed up hx Ar seen
        have s9 := seen.sl 9 (.pointer (some ⟨px, 0, none⟩))
        refine doesY_plain rfl fun K Q' hK => ?_
        refine wp_load_row 116 _ rfl px (by simp [Act.eval, s9]) _ _ _ _ ((hg.block _ (block_lt HB8.out) (by simp; exact HPN.out)).trans HB8.out) Try.underlying116 rfl hSize ?_
        exact hK _ _ (Chg.refl _ _) (hx.same (by kernel_rfl)) rfl
      · intro w1 hg listed up hx Ar seen
        have s6 := seen.sl 6 (.slice a2 64 c2)
        refine doesY_plain rfl fun K Q' hK => ?_
        go_simp; exact hK _ _ (Chg.refl _ _) (hx.same (by kernel_rfl)) rfl
      · intro w1 hg listed up hx Ar seen
        have s9 := seen.sl 9 (.pointer (some ⟨px, 0, none⟩))
        refine doesY_plain rfl fun K Q' hK => ?_
        refine wp_load_row 116 _ rfl px (by simp [Act.eval, s9]) _ _ _ _ ((hg.block _ (block_lt HB8.out) (by simp; exact HPN.out)).trans HB8.out) Try.underlying116 rfl hSize ?_
        exact hK _ _ (Chg.refl _ _) (hx.same (by kernel_rfl)) rfl
      · intro w1 hg listed up hx Ar seen
        have e2 := seen.de 2 32
        refine doesY_plain rfl fun K Q' hK => ?_
        obtain ⟨C0, hC0, -⟩ := hx.1
        have hlt := block_lt hC0
        go_simp
        refine (headBytes_any E a u _ HE64.out).mono ?_
        rintro e u' ⟨a', c', rfl, ho, hb⟩
        exact hK _ _ (Chg.of_below hb _) ((hx.pass hb).same (by kernel_rfl)) ⟨a', c', rfl, RdB.of_own ho, fun q off sp hq hqe => by have := (ho.lt q (by rw [hq]; rfl)).1; omega⟩
      · intro w1 hg listed up hx Ar seen
        have e1 := seen.de 1 31
        obtain ⟨v3, e3, h3⟩ := seen.dp 3 33
        refine doesY_plain rfl fun K Q' hK => ?_
        obtain ⟨a', c', rfl, h3, -⟩ := h3
        go_simp
        refine (equalB_any a2 a' 64 c2 64 c' B (headB E a u) _ (hg.rdB HR8.out (fun q off sp hq hm => HA2.out q off sp hq (List.mem_singleton.1 hm))) h3 (by decide)).mono ?_
        rintro e u' ⟨rfl, hb⟩
        exact hK _ _ (Chg.of_below hb _) ((hx.pass hb).same (by kernel_rfl)) (congrArg Value.bool (decide_eq_true HC1.out))
      · intro w1 hg listed up hx Ar seen
        have e4 := seen.de 4 34
        refine doesY_plain rfl fun K Q' hK => ?_
        go_simp; exact hK _ _ (Chg.refl _ _) (hx.same (by kernel_rfl)) rfl
      · intro w1 hg listed up hx Ar seen
        have e5 := seen.de 5 35
        have s9 := seen.sl 9 (.pointer (some ⟨px, 0, none⟩))
        refine doesY_on rfl (by kernel_rfl) e5 fun K Q' hK => ?_
        clear e5
        go_simp; exact hK _ _ (Chg.refl _ _) (hx.same (by kernel_rfl)) rfl
      · intro w1 hg listed up hx Ar seen
        have e6 := seen.de 6 36
        have e5 := seen.de 5 35
        refine doesY_on rfl (by kernel_rfl) e5 fun K Q' hK => ?_
        clear e5
        have hc : w1.cell? ⟨px, 1, none⟩ = some (.int .i64 a) := cell_of_block (j := 1) ((hg.block _ (block_lt HB8.out) (by simp; exact HPN.out)).trans HB8.out) rfl
        go_simp; exact hK _ _ (Chg.refl _ _) (hx.same (by kernel_rfl)) rfl
      · intro w1 hg listed up hx Ar seen
        have e7 := seen.de 7 37
        have e5 := seen.de 5 35
        refine doesY_on rfl (by kernel_rfl) e5 fun K Q' hK => ?_
        clear e5
        have hc := HC2.out
        go_simp; exact hK _ _ (Chg.refl _ _) (hx.same (by kernel_rfl)) rfl
      · intro w1 hg listed up hx Ar seen
        have e5 := seen.de 5 35
        have e8 := seen.de 8 38
        refine doesY_plain rfl fun K Q' hK => ?_
        go_simp; exact hK _ _ (Chg.refl _ _) (hx.same (by kernel_rfl)) rfl
      · intro w1 hg listed up hx Ar seen
        have e9 := seen.de 9 39
        refine doesY_plain rfl fun K Q' hK => ?_
        go_simp; exact hK _ _ (Chg.refl _ _) (hx.same (by kernel_rfl)) rfl
      · intro w1 hg listed up hx Ar seen
        have e10 := seen.de 10 40
        have s9 := seen.sl 9 (.pointer (some ⟨px, 0, none⟩))
        refine doesY_on rfl (by kernel_rfl) e10 fun K Q' hK => ?_
        clear e10
        go_simp; exact hK _ _ (Chg.refl _ _) (hx.same (by kernel_rfl)) rfl
      · intro w1 hg listed up hx Ar seen
        have e11 := seen.de 11 41
        have e10 := seen.de 10 40
        refine doesY_on rfl (by kernel_rfl) e10 fun K Q' hK => ?_
        clear e10
        have hc : w1.cell? ⟨px, 2, none⟩ = some (.int .i64 u) := cell_of_block (j := 2) ((hg.block _ (block_lt HB8.out) (by simp; exact HPN.out)).trans HB8.out) rfl
        go_simp; exact hK _ _ (Chg.refl _ _) (hx.same (by kernel_rfl)) rfl
      · intro w1 hg listed up hx Ar seen
        have e10 := seen.de 10 40
        have s0 := seen.sl 0 (.pointer (some ⟨p, 0, none⟩))
        refine doesY_on rfl (by kernel_rfl) e10 fun K Q' hK => ?_
        clear e10
        go_simp; exact hK _ _ (Chg.refl _ _) (hx.same (by kernel_rfl)) rfl
      · intro w1 hg listed up hx Ar seen
        have e13 := seen.de 13 43
        have e10 := seen.de 10 40
        refine doesY_on rfl (by kernel_rfl) e10 fun K Q' hK => ?_
        clear e10
        go_simp
        refine (half_any p s F _ (HD8.out.keep hg (fun k hk hm => HFW.out (by rw [List.mem_singleton.1 hm] at hk; exact hk))) h2 (by omega)).mono ?_
        rintro e u' ⟨rfl, rfl⟩
        rw [HHF.out]
        exact hK _ _ (Chg.refl _ _) (hx.same (by kernel_rfl)) rfl
      · intro w1 hg listed up hx Ar seen
        have e12 := seen.de 12 42
        have e14 := seen.de 14 44
        have e10 := seen.de 10 40
        refine doesY_on rfl (by kernel_rfl) e10 fun K Q' hK => ?_
        clear e10
        have hc := HC3.out
        go_simp; exact hK _ _ (Chg.refl _ _) (hx.same (by kernel_rfl)) rfl
      · intro w1 hg listed up hx Ar seen
        have e10 := seen.de 10 40
        have e15 := seen.de 15 45
        refine doesY_plain rfl fun K Q' hK => ?_
        go_simp; exact hK _ _ (Chg.refl _ _) (hx.same (by kernel_rfl)) rfl
      · intro w1 hg listed up hx Ar seen
        have e0 := seen.de 0 30
        have s4 := seen.sl 4 (.pointer (some ⟨w.heap.size, 0, none⟩))
        refine doesY_plain rfl fun K Q' hK => ?_
        obtain ⟨C, hC, hCs⟩ := hx.1
        refine wp_store_obj 116 _ _ rfl w.heap.size (by simp [Act.eval, s4]) (headArr E a u) (by simp [Act.eval, e0]) C _ hC hCs hSize (headArr_one E a u) ?_
        intro w2 hb2 hc2 hs2
        exact hK undef _ hc2 (HdX.one rfl hb2) rfl
      · intro w1 hg listed up hx Ar seen
        have e16 := seen.de 16 46
        refine doesY_plain rfl fun K Q' hK => ?_
        go_simp; exact hK _ _ (Chg.refl _ _) (hx.same (by kernel_rfl)) rfl
  intro w1 hg listed hl hx
  refine upon_w' (js := [0, 1, 2, 3, 4, 5, 6, 7, 8, 9, 10, 11, 12, 13, 14, 15, 16, 17, 18]) (by rfl) ?_
  refine upon_e (some 30) (upon_e (some 31) (upon_e (some 32) (upon_v (some 33) fun v3 h3 => upon_e (some 34) (upon_e (some 35) (upon_e (some 36) (upon_e (some 37) (upon_e (some 38) (upon_e (some 39) (upon_e (some 40) (upon_e (some 41) (upon_e (some 42) (upon_e (some 43) (upon_e (some 44) (upon_e (some 45) (upon_e (some 46) (upon_e none (upon_e (some 5) (upon_n ?_))))))))))))))))))
  go_simp
  have hx2 : w1.heap[w.heap.size]? = some (.cells (headArr E a u) 116 (0, 0)) := hx.2 (hl 17 (by decide))
  have hbz : Below w.heap.size w w1 := HB18.out.trans (hg.below (fun q hq => by rw [List.mem_singleton.1 hq]; exact Nat.le_refl _) HB18.out.size)
  have HBZ := hid hbz
  clear hbz hg hx hl h3
  go_wp2_with fail
  refine bodyPost_ret (results_cell_tmpW rfl _ _ w.heap.size _ _ _ _ rfl hx2 Try.underlying116 rfl hSize _ rfl) rfl ?_
  refine ⟨E, a, u, true, rfl, HBZ.out, fun _ => ⟨by rw [HX.out, HC1.out], HE64.out, HA0.out, HC2.out, HU0.out, by rw [HHF.out]; exact HC3.out⟩, fun h => by cases h⟩
end Go.Proofs.Ytipkeifpkemcdaa
