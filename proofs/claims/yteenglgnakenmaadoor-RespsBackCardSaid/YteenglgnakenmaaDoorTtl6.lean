/- ttlv's reader: its parts. -/
import Derived.Test.YteenglgnakenmaaDoorTtl5
import Derived.Test.YteenglgnakenmaaDoorRd6
namespace Go.Proofs.YteenglgnakenmaaDoor
open Go.RowKit
set_option linter.unusedVariables false
set_option linter.unusedSimpArgs false
set_option maxRecDepth 100000
set_option maxHeartbeats 3200000
/-- Bytes that may be handed on. -/
structure GB (w : World) (a : Option Addr) (n c : Nat) (l : List UInt8) : Prop where
  rd : RdB w a n l
  no : a = none → c = 0
  nc : n ≤ c
  lt : ∀ q off sp, a = some ⟨q, off, sp⟩ → q < w.heap.size
  le : n ≤ 140737488355328
section
variable {w w' : World} {a : Option Addr} {n c k : Nat} {l : List UInt8}
theorem GB.keep {G : List Nat} (h : GB w a n c l) (hc : Chg G w w') (hd : ∀ q off sp, a = some ⟨q, off, sp⟩ → q ∉ G) : GB w' a n c l :=
  ⟨hc.rdB h.rd hd, h.no, h.nc, fun q off sp e => Nat.lt_of_lt_of_le (h.lt q off sp e) hc.size, h.le⟩
theorem GB.below (h : GB w a n c l) (hb : Below w.heap.size w w') : GB w' a n c l := h.keep (Chg.of_below hb []) (fun _ _ _ _ hm => by cases hm)
theorem GB.take (h : GB w a n c l) (hk : k ≤ n) : GB w a k c (l.take k) := ⟨h.rd.take hk, h.no, Nat.le_trans hk h.nc, h.lt, Nat.le_trans hk h.le⟩
theorem GB.slC (h : GB w a n c l) : SlC w ⟨a, n, c⟩ (l.map B8) :=
  ⟨h.rd.toC, h.no, h.le, fun q hq => by
    cases a with
    | none => simp [Sl.blk] at hq
    | some x =>
      simp [Sl.blk] at hq
      subst hq
      exact h.lt x.block x.off x.spot rfl, h.nc⟩
theorem GB.drop (h : GB w a n c l) (hk : k ≤ n) : ∃ a2, (if c = k then a else a.map (·.add (k * 1))) = a2 ∧ GB w a2 (n - k) (c - k) (l.drop k) ∧ ∀ q off sp, a2 = some ⟨q, off, sp⟩ → ∃ off' sp', a = some ⟨q, off', sp'⟩ := by
  obtain ⟨h1, h2, h3, _⟩ := drop_facts h.rd hk h.nc h.no rfl
  refine ⟨_, rfl, ⟨h1, h2, Nat.sub_le_sub_right h.nc k, fun q off sp e => ?_, Nat.le_trans (Nat.sub_le n k) h.le⟩, h3⟩
  obtain ⟨off', sp', e'⟩ := h3 q off sp e
  exact h.lt q off' sp' e'
end
/-- The bytes' block is none of those. -/
def Off (a : Option Addr) (G : List Nat) : Prop := ∀ q off sp, a = some ⟨q, off, sp⟩ → q ∉ G
theorem bytes_any (p bi : Nat) (vi : ItV) (a : Option Addr) (n c : Nat) (l : List UInt8) (dz : Int) (w : World) (hi : w.heap[bi]? = some (.cells vi.arr 30 (0, 0))) (hg : GB w a n c l) (hT : UT w) :
    Calls Tryd.prog 61 #[.pointer (some ⟨p, 0, none⟩), .pointer (some ⟨bi, 0, none⟩), .slice a n c, .int .i64 dz] w fun e w' => Chg [bi] w w' ∧
      ((datB vi.typ l = false ∧ e = .returned (.int .i64 5)) ∨ (datB vi.typ l = true ∧ e = .returned (.int .i64 0) ∧ ∃ s : Sl, w'.heap[bi]? = some (.cells (ItV.arr { vi with data := l, ds := s }) 30 (0, 0)) ∧ SlC w' s (l.map B8) ∧ ∀ k ∈ s.blk, w.heap.size ≤ k)) := by
  have HI := hid hi; have HG := hid hg; have HT := hid hT
  have d1 := cell_of_block (j := 1) hi (ar1 vi)
  clear hi hg hT
  go_enter Tryd.func61, Tryd.ntmps61
  go_wp2_with fail
  refine (data_any vi.typ a n c l _ HG.out.rd HG.out.no HG.out.nc HG.out.le HT.out).mono ?_
  rintro e w2 ⟨rfl, hb⟩
  dsimp only
  have HB := hid hb
  have HI2 := hid ((hb.block _ (block_lt HI.out)).trans HI.out)
  have HG2 := hid (HG.out.below hb)
  have HBI := hid (block_lt HI.out)
  clear hb d1
  cases hd : datB vi.typ l with
  | false =>
    have HD := hid hd
    clear hd
    go_wp2_with fail
    go_ret
    exact ⟨Chg.of_below HB.out _, .inl ⟨HD.out, rfl⟩⟩
  | true =>
    have HD := hid hd
    clear hd
    go_wp2_with fail
    refine (cloneY_any ⟨a, n, c⟩ _ _ HG2.out.slC (B8_one _)).mono ?_
    rintro e w3 ⟨s, rfl, hn, hs, hf, hb3⟩
    dsimp only
    have HB3 := hid (HB.out.trans (Below.mono hb3 HB.out.size))
    have HI3 := hid ((hb3.block _ (block_lt HI2.out)).trans HI2.out)
    have HS := hid hs
    have HF := hid (fun k hk => Nat.le_trans HB.out.size (hf k hk))
    clear hn hs hf hb3 HI2
    have d3 := cell_of_block (j := 3) HI3.out (ar3 vi)
    have hfz := fun j => frozen_of_block (j := j) HI3.out
    go_wp2_with fail
    go_ret
    have hc : Chg [bi] w3 (w3.setCell ⟨bi, 3, none⟩ (.slice s.a s.n s.c)) := (Chg.refl [bi] w3).setCell (.inl (by simp)) _
    refine ⟨(Chg.of_below HB3.out [bi]).trans hc (fun k hk => .inl hk), .inr ⟨HD.out, rfl, s, block_setCell (j := 3) HI3.out _, HS.out.keep hc (fun k hk hm => ?_), HF.out⟩⟩
    have h1 := HF.out k hk
    have h2 := HBI.out
    have h3 := List.mem_singleton.1 hm
    omega
def shortV (k : Int) (l : List UInt8) : Int := if k = 2 then wrap64 (wrap32 (pI 4 (l, false)).1) else (pI 4 (l, false)).1
theorem short_any (p bi : Nat) (vi : ItV) (a : Option Addr) (n c : Nat) (l : List UInt8) (dz : Int) (w : World) (hi : w.heap[bi]? = some (.cells vi.arr 30 (0, 0))) (hg : GB w a n c l) :
    Calls Tryd.prog 62 #[.pointer (some ⟨p, 0, none⟩), .pointer (some ⟨bi, 0, none⟩), .slice a n c, .int .i64 dz] w fun e w' => Chg [bi] w w' ∧ e = .returned (.int .i64 0) ∧ w'.heap[bi]? = some (.cells (ItV.arr { vi with int := shortV vi.typ l }) 30 (0, 0)) := by
  have HI := hid hi; have HG := hid hg
  clear hi hg
  go_enter Tryd.func62, Tryd.ntmps62
  go_wp2_with fail
  refine (soNew_any a n c l _ HG.out.rd HG.out.no HG.out.le).mono ?_
  rintro e w2 ⟨q, FQ, rfl, hq, hqf, hb⟩
  dsimp only
  have HQ := hid hq
  have HQF := hid hqf
  have HB := hid hb
  have HI2 := hid ((hb.block _ (block_lt HI.out)).trans HI.out)
  have HBI := hid (block_lt HI.out)
  clear hq hqf hb
  go_wp2_with fail
  refine (soU32_any q _ FQ _ HQ.out).mono ?_
  rintro e w3 ⟨rfl, hc3, _⟩
  dsimp only
  have hqb : q ∉ [bi] := by have h1 := HQF.out q HQ.out.mem; have h2 := HBI.out; simp; omega
  have HI3 := hid ((hc3.block _ (block_lt HI2.out) (by have h1 := HQF.out q HQ.out.mem; have h2 := HBI.out; simp; omega)).trans HI2.out)
  have HC3 : Hid (Chg [bi] w w3) := (Chg.of_below HB.out [bi]).trans (hc3.mono (G := [q]) (fun k hk => hk)) (fun k hk => .inr (by rw [List.mem_singleton.1 hk]; exact HQF.out q HQ.out.mem))
  clear hc3 HI2 HQ hqb HB
  have HV : Hid (shortV vi.typ l = if vi.typ = 2 then wrap64 (wrap32 (pI 4 (l, false)).1) else (pI 4 (l, false)).1) := rfl
  generalize (pI 4 (l, false)).1 = z at *
  have d2 := cell_of_block (j := 2) HI3.out (ar2 vi)
  have hfz := fun j => frozen_of_block (j := j) HI3.out
  go_upto_region 2 with (fail)
  have HI4 : Hid ((w3.setCell ⟨bi, 2, none⟩ (.int .i64 z)).heap[bi]? = some (.cells (ItV.arr { vi with int := z }) 30 (0, 0))) := block_setCell (j := 2) HI3.out _
  have HC4 : Hid (Chg [bi] w (w3.setCell ⟨bi, 2, none⟩ (.int .i64 z))) := HC3.out.setCell (.inl (by simp)) _
  clear HI3 HC3 d2 hfz
  generalize w3.setCell ⟨bi, 2, none⟩ (.int .i64 z) = w4 at *
  have d1 := cell_of_block (j := 1) HI4.out (ar1 _)
  have d2 := cell_of_block (j := 2) HI4.out (ar2 _)
  simp only at d1 d2
  have hfz := fun j => frozen_of_block (j := j) HI4.out
  by_cases hk : vi.typ = 2
  · have HV2 : Hid (shortV vi.typ l = wrap64 (wrap32 z)) := by show _ = _; rw [HV.out, if_pos hk]
    rw [hk] at d1
    clear HV
    have HK := hid hk
    clear hk
    go_wp2_with fail
    go_ret
    refine ⟨HC4.out.setCell (.inl (by simp)) _, rfl, ?_⟩
    rw [HV2.out]
    exact block_setCell (j := 2) HI4.out _
  · have HV2 : Hid (shortV vi.typ l = z) := by show _ = _; rw [HV.out, if_neg hk]
    have hk1 : (vi.typ == 2) = false := beq_eq_false_iff_ne.2 hk
    clear HV hk
    go_wp2_with fail
    go_ret
    refine ⟨HC4.out, rfl, ?_⟩
    rw [HV2.out]
    exact HI4.out
def longE (b : Bool) : Int := if b then 0 else 5
theorem long_any (p bi : Nat) (vi : ItV) (a : Option Addr) (n c : Nat) (l : List UInt8) (dz : Int) (w : World) (hi : w.heap[bi]? = some (.cells vi.arr 30 (0, 0))) (hg : GB w a n c l) :
    Calls Tryd.prog 63 #[.pointer (some ⟨p, 0, none⟩), .pointer (some ⟨bi, 0, none⟩), .slice a n c, .int .i64 dz] w fun e w' => Chg [bi] w w' ∧ w'.heap[bi]? = some (.cells (ItV.arr { vi with int := (pI 8 (l, false)).1 }) 30 (0, 0)) ∧ e = .returned (.int .i64 (longE (numB vi.typ (pI 8 (l, false)).1))) := by
  have HI := hid hi; have HG := hid hg
  clear hi hg
  obtain ⟨z, hz⟩ : ∃ z, z = (pI 8 (l, false)).1 := ⟨_, rfl⟩
  rw [← hz]
  have HZ := hid hz
  clear hz
  go_enter Tryd.func63, Tryd.ntmps63
  go_wp2_with fail
  refine (soNew_any a n c l _ HG.out.rd HG.out.no HG.out.le).mono ?_
  rintro e w2 ⟨q, FQ, rfl, hq, hqf, hb⟩
  dsimp only
  have HQ := hid hq
  have HQF := hid hqf
  have HB := hid hb
  have HI2 := hid ((hb.block _ (block_lt HI.out)).trans HI.out)
  have HBI := hid (block_lt HI.out)
  clear hq hqf hb
  go_wp2_with fail
  refine (soU64_any q _ FQ _ HQ.out).mono ?_
  rintro e w3 ⟨rfl, hc3, _⟩
  dsimp only
  have HI3 := hid ((hc3.block _ (block_lt HI2.out) (by have h1 := HQF.out q HQ.out.mem; have h2 := HBI.out; simp; omega)).trans HI2.out)
  have HC3 : Hid (Chg [bi] w w3) := (Chg.of_below HB.out [bi]).trans (hc3.mono (G := [q]) (fun k hk => hk)) (fun k hk => .inr (by rw [List.mem_singleton.1 hk]; exact HQF.out q HQ.out.mem))
  clear hc3 HI2 HQ HB
  have HAS : Hid (wrap64 ((num (taken l false 8) : Nat) : Int) = z) := by show _ = _; rw [HZ.out]; exact asInt_eq _
  have d2 := cell_of_block (j := 2) HI3.out (ar2 vi)
  have hfz := fun j => frozen_of_block (j := j) HI3.out
  go_upto_region 2 with (fail)
  rw [HAS.out]
  have HI4 : Hid ((w3.setCell ⟨bi, 2, none⟩ (.int .i64 z)).heap[bi]? = some (.cells (ItV.arr { vi with int := z }) 30 (0, 0))) := block_setCell (j := 2) HI3.out _
  have HC4 : Hid (Chg [bi] w (w3.setCell ⟨bi, 2, none⟩ (.int .i64 z))) := HC3.out.setCell (.inl (by simp)) _
  clear HI3 HC3 d2 hfz HAS
  generalize w3.setCell ⟨bi, 2, none⟩ (.int .i64 z) = w4 at *
  cases hn : numB vi.typ z with
  | true =>
    have HN := hid hn
    clear hn
    refine wp_region_each 10 [.eq (.pointer (some ⟨bi, 0, none⟩)), .eq (.pointer (some ⟨bi, 0, none⟩)), .eq (.pointer (some ⟨bi, 1, none⟩)), .eq (.int .i64 vi.typ), .eq (.pointer (some ⟨bi, 0, none⟩)), .eq (.pointer (some ⟨bi, 0, none⟩)), .eq (.pointer (some ⟨bi, 2, none⟩)), .eq (.int .i64 z), .eq (.bool true), .eq (.bool false)] (by kernel_rfl) (by kernel_rfl) (by kernel_rfl) (by kernel_rfl) ?_ ?_
    · all_goals
        refine each_5 ?_ ?_ ?_ ?_ ?_ (each_5 ?_ ?_ ?_ ?_ ?_ (each_n))
        · intro w1 hg Ar seen
          have s1 := seen.sl 1 (.pointer (some ⟨bi, 0, none⟩))
          refine does_plain rfl fun K Q' hK => ?_
          go_simp; exact hK _ _ (Grow.refl _) rfl
        · intro w1 hg Ar seen
          have e0 := seen.de 0 16
          refine does_plain rfl fun K Q' hK => ?_
          go_simp; exact hK _ _ (Grow.refl _) rfl
        · intro w1 hg Ar seen
          have e1 := seen.de 1 17
          refine does_plain rfl fun K Q' hK => ?_
          go_simp; exact hK _ _ (Grow.refl _) rfl
        · intro w1 hg Ar seen
          have e2 := seen.de 2 18
          refine does_plain rfl fun K Q' hK => ?_
          have hc := cell_of_block (j := 1) ((hg.block _ (block_lt HI4.out)).trans HI4.out) (ar1 _)
          go_simp; exact hK _ _ (Grow.refl _) rfl
        · intro w1 hg Ar seen
          have s1 := seen.sl 1 (.pointer (some ⟨bi, 0, none⟩))
          refine does_plain rfl fun K Q' hK => ?_
          go_simp; exact hK _ _ (Grow.refl _) rfl
        · intro w1 hg Ar seen
          have e4 := seen.de 4 20
          refine does_plain rfl fun K Q' hK => ?_
          go_simp; exact hK _ _ (Grow.refl _) rfl
        · intro w1 hg Ar seen
          have e5 := seen.de 5 21
          refine does_plain rfl fun K Q' hK => ?_
          go_simp; exact hK _ _ (Grow.refl _) rfl
        · intro w1 hg Ar seen
          have e6 := seen.de 6 22
          refine does_plain rfl fun K Q' hK => ?_
          have hc := cell_of_block (j := 2) ((hg.block _ (block_lt HI4.out)).trans HI4.out) (ar2 _)
          go_simp; exact hK _ _ (Grow.refl _) rfl
        · intro w1 hg Ar seen
          have e3 := seen.de 3 19
          have e7 := seen.de 7 23
          refine does_plain rfl fun K Q' hK => ?_
          go_simp
          refine (number_any vi.typ z _).mono ?_
          rintro e u ⟨rfl, rfl⟩
          exact hK _ _ (Grow.refl _) (congrArg Value.bool HN.out)
        · intro w1 hg Ar seen
          have e8 := seen.de 8 24
          refine does_plain rfl fun K Q' hK => ?_
          go_simp; exact hK _ _ (Grow.refl _) rfl
    intro w1 hg
    refine upon_w' (js := [0, 1, 2, 3, 4, 5, 6, 7, 8, 9]) (by rfl) ?_
    refine upon_e (some 16) (upon_e (some 17) (upon_e (some 18) (upon_e (some 19) (upon_e (some 20) (upon_e (some 21) (upon_e (some 22) (upon_e (some 23) (upon_e (some 24) (upon_e (some 25) (upon_n ?_))))))))))
    go_simp
    have HG5 := hid hg
    clear hg
    go_simp
    go_wp2_with fail
    go_ret
    exact ⟨HC4.out.trans (Chg.of_below HG5.out [bi]) (fun k hk => .inl hk), (HG5.out.block _ (block_lt HI4.out)).trans HI4.out, by rw [HN.out]; rfl⟩
  | false =>
    have HN := hid hn
    clear hn
    refine wp_region_each 10 [.eq (.pointer (some ⟨bi, 0, none⟩)), .eq (.pointer (some ⟨bi, 0, none⟩)), .eq (.pointer (some ⟨bi, 1, none⟩)), .eq (.int .i64 vi.typ), .eq (.pointer (some ⟨bi, 0, none⟩)), .eq (.pointer (some ⟨bi, 0, none⟩)), .eq (.pointer (some ⟨bi, 2, none⟩)), .eq (.int .i64 z), .eq (.bool false), .eq (.bool true)] (by kernel_rfl) (by kernel_rfl) (by kernel_rfl) (by kernel_rfl) ?_ ?_
    · all_goals
        refine each_5 ?_ ?_ ?_ ?_ ?_ (each_5 ?_ ?_ ?_ ?_ ?_ (each_n))
        · intro w1 hg Ar seen
          have s1 := seen.sl 1 (.pointer (some ⟨bi, 0, none⟩))
          refine does_plain rfl fun K Q' hK => ?_
          go_simp; exact hK _ _ (Grow.refl _) rfl
        · intro w1 hg Ar seen
          have e0 := seen.de 0 16
          refine does_plain rfl fun K Q' hK => ?_
          go_simp; exact hK _ _ (Grow.refl _) rfl
        · intro w1 hg Ar seen
          have e1 := seen.de 1 17
          refine does_plain rfl fun K Q' hK => ?_
          go_simp; exact hK _ _ (Grow.refl _) rfl
        · intro w1 hg Ar seen
          have e2 := seen.de 2 18
          refine does_plain rfl fun K Q' hK => ?_
          have hc := cell_of_block (j := 1) ((hg.block _ (block_lt HI4.out)).trans HI4.out) (ar1 _)
          go_simp; exact hK _ _ (Grow.refl _) rfl
        · intro w1 hg Ar seen
          have s1 := seen.sl 1 (.pointer (some ⟨bi, 0, none⟩))
          refine does_plain rfl fun K Q' hK => ?_
          go_simp; exact hK _ _ (Grow.refl _) rfl
        · intro w1 hg Ar seen
          have e4 := seen.de 4 20
          refine does_plain rfl fun K Q' hK => ?_
          go_simp; exact hK _ _ (Grow.refl _) rfl
        · intro w1 hg Ar seen
          have e5 := seen.de 5 21
          refine does_plain rfl fun K Q' hK => ?_
          go_simp; exact hK _ _ (Grow.refl _) rfl
        · intro w1 hg Ar seen
          have e6 := seen.de 6 22
          refine does_plain rfl fun K Q' hK => ?_
          have hc := cell_of_block (j := 2) ((hg.block _ (block_lt HI4.out)).trans HI4.out) (ar2 _)
          go_simp; exact hK _ _ (Grow.refl _) rfl
        · intro w1 hg Ar seen
          have e3 := seen.de 3 19
          have e7 := seen.de 7 23
          refine does_plain rfl fun K Q' hK => ?_
          go_simp
          refine (number_any vi.typ z _).mono ?_
          rintro e u ⟨rfl, rfl⟩
          exact hK _ _ (Grow.refl _) (congrArg Value.bool HN.out)
        · intro w1 hg Ar seen
          have e8 := seen.de 8 24
          refine does_plain rfl fun K Q' hK => ?_
          go_simp; exact hK _ _ (Grow.refl _) rfl
    intro w1 hg
    refine upon_w' (js := [0, 1, 2, 3, 4, 5, 6, 7, 8, 9]) (by rfl) ?_
    refine upon_e (some 16) (upon_e (some 17) (upon_e (some 18) (upon_e (some 19) (upon_e (some 20) (upon_e (some 21) (upon_e (some 22) (upon_e (some 23) (upon_e (some 24) (upon_e (some 25) (upon_n ?_))))))))))
    go_simp
    have HG5 := hid hg
    clear hg
    go_simp
    go_wp2_with fail
    go_ret
    exact ⟨HC4.out.trans (Chg.of_below HG5.out [bi]) (fun k hk => .inl hk), (HG5.out.block _ (block_lt HI4.out)).trans HI4.out, by rw [HN.out]; rfl⟩
theorem int_dec (n m : Nat) : decide (n = m) = ((n : Int) == (m : Int)) := by
  by_cases h : n = m
  · subst h; simp
  · have h2 : (n : Int) ≠ (m : Int) := by omega
    rw [beq_eq_false_iff_ne.2 h2]; simp [h]
/-- What reads an item of a kind, and may it be so long? -/
def ofV (p : Nat) (k : Int) : Value := if k = 1 then .func (.func 60) #[.pointer (some ⟨p, 0, none⟩)] #[] else if isD k = true then .func (.func 61) #[.pointer (some ⟨p, 0, none⟩)] #[] else if isS k = true then .func (.func 62) #[.pointer (some ⟨p, 0, none⟩)] #[] else .func (.func 63) #[.pointer (some ⟨p, 0, none⟩)] #[]
def ofB (k : Int) (n : Nat) : Bool := if k = 1 then true else if k = 4 then decide (0 < n) && decide (n % 8 = 0) else if isD k = true then true else if isS k = true then decide (n = 4) else decide (n = 8)
theorem of_any (p : Nat) (k : Int) (n : Nat) (w : World) (hn : n ≤ 140737488355328) :
    Calls Tryd.prog 54 #[.pointer (some ⟨p, 0, none⟩), .int .i64 k, .int .i64 n] w fun e w' => e = .returned (.tuple #[ofV p k, .bool (ofB k n)]) ∧ w = w' := by
  have hmf : ∀ (fn : Fn) (first cap : Array Value) (w : World), (Instr.makeFunc fn first cap).run Tryd.prog w = .ok (.func fn first cap) w := fun _ _ _ _ => rfl
  by_cases h1 : k = 1
  · subst h1
    have HV : Hid (ofV p 1 = .func (.func 60) #[.pointer (some ⟨p, 0, none⟩)] #[] ∧ ofB 1 n = true) := ⟨rfl, rfl⟩
    go_enter Tryd.func54, Tryd.ntmps54
    go_wp2_with fail
    go_ret2
    exact ⟨by rw [HV.out.1, HV.out.2]; rfl, rfl⟩
  have e1 : (k == 1) = false := beq_eq_false_iff_ne.2 h1
  by_cases h4 : k = 4
  · subst h4
    by_cases h0 : 0 < n
    · have h0z : (0 : Int) < (n : Int) := by omega
      have HV : Hid (ofV p 4 = .func (.func 61) #[.pointer (some ⟨p, 0, none⟩)] #[] ∧ ofB 4 n = ((n : Int) % 8 == 0)) := by
        refine ⟨rfl, ?_⟩
        show (decide (0 < n) && decide (n % 8 = 0)) = _
        by_cases h : n % 8 = 0
        · have h' : (n : Int) % 8 = 0 := by omega
          simp [h0, h, h']
        · have h' : (n : Int) % 8 ≠ 0 := by omega
          rw [beq_eq_false_iff_ne.2 h']
          simp [h]
      go_enter Tryd.func54, Tryd.ntmps54
      go_wp2_with fail
      go_ret2
      exact ⟨by rw [HV.out.1, HV.out.2]; rfl, rfl⟩
    · have h0z : ¬ ((0 : Int) < (n : Int)) := by omega
      have h0b : decide ((0 : Int) < (n : Int)) = false := decide_eq_false h0z
      have HV : Hid (ofV p 4 = .func (.func 61) #[.pointer (some ⟨p, 0, none⟩)] #[] ∧ ofB 4 n = false) := ⟨rfl, by show (decide (0 < n) && decide (n % 8 = 0)) = _; simp [h0]⟩
      go_enter Tryd.func54, Tryd.ntmps54
      go_wp2_with fail
      go_ret2
      exact ⟨by rw [HV.out.1, HV.out.2]; rfl, rfl⟩
  have e4 : (k == 4) = false := beq_eq_false_iff_ne.2 h4
  cases hd : isD k with
  | true =>
    have HV : Hid (ofV p k = .func (.func 61) #[.pointer (some ⟨p, 0, none⟩)] #[] ∧ ofB k n = true) := by
      unfold ofV ofB
      rw [if_neg h1, if_pos hd, if_neg h1, if_neg h4, if_pos hd]
      exact ⟨rfl, rfl⟩
    have HD := hid hd
    clear hd
    go_enter Tryd.func54, Tryd.ntmps54
    go_wp2_with fail
    refine (isData_any k _).mono ?_
    rintro e w2 ⟨rfl, rfl⟩
    dsimp only
    rw [HD.out]
    go_wp2_with fail
    go_ret2
    exact ⟨by rw [HV.out.1, HV.out.2]; rfl, rfl⟩
  | false =>
    have HD := hid hd
    clear hd
    cases hs : isS k with
    | true =>
      have HV : Hid (ofV p k = .func (.func 62) #[.pointer (some ⟨p, 0, none⟩)] #[] ∧ ofB k n = ((n : Int) == 4)) := by
        unfold ofV ofB
        rw [if_neg h1, if_neg (by rw [HD.out]; decide), if_pos hs, if_neg h1, if_neg h4, if_neg (by rw [HD.out]; decide), if_pos hs]
        exact ⟨rfl, int_dec n 4⟩
      have HS := hid hs
      clear hs
      go_enter Tryd.func54, Tryd.ntmps54
      go_wp2_with fail
      refine (isData_any k _).mono ?_
      rintro e w2 ⟨rfl, rfl⟩
      dsimp only
      rw [HD.out]
      go_wp2_with fail
      refine (isShort_any k _).mono ?_
      rintro e w2 ⟨rfl, rfl⟩
      dsimp only
      rw [HS.out]
      go_wp2_with fail
      go_ret2
      exact ⟨by rw [HV.out.1, HV.out.2]; rfl, rfl⟩
    | false =>
      have HV : Hid (ofV p k = .func (.func 63) #[.pointer (some ⟨p, 0, none⟩)] #[] ∧ ofB k n = ((n : Int) == 8)) := by
        unfold ofV ofB
        rw [if_neg h1, if_neg (by rw [HD.out]; decide), if_neg (by rw [hs]; decide), if_neg h1, if_neg h4, if_neg (by rw [HD.out]; decide), if_neg (by rw [hs]; decide)]
        exact ⟨rfl, int_dec n 8⟩
      have HS := hid hs
      clear hs
      go_enter Tryd.func54, Tryd.ntmps54
      go_wp2_with fail
      refine (isData_any k _).mono ?_
      rintro e w2 ⟨rfl, rfl⟩
      dsimp only
      rw [HD.out]
      go_wp2_with fail
      refine (isShort_any k _).mono ?_
      rintro e w2 ⟨rfl, rfl⟩
      dsimp only
      rw [HS.out]
      go_wp2_with fail
      go_ret2
      exact ⟨by rw [HV.out.1, HV.out.2]; rfl, rfl⟩
end Go.Proofs.YteenglgnakenmaaDoor
