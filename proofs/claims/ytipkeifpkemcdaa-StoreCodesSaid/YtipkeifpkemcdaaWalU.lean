/- (*Log).units of an area that holds units. -/
import Derived.Test.YtipkeifpkemcdaaWalR
import Derived.Test.YtipkeifpkemcdaaWalT
namespace Go.Proofs.Ytipkeifpkemcdaa
open Go.RowKit
set_option linter.unusedVariables false
set_option linter.unusedSimpArgs false
set_option maxRecDepth 100000
set_option maxHeartbeats 6400000
theorem chunk_take (l : List UInt8) (i : Nat) : l.take (64 * i) ++ chunk l i = l.take (64 * (i + 1)) := by
  unfold chunk
  rw [show 64 * (i + 1) = 64 * i + 64 by omega, List.take_add]
theorem layAll_at (us : List (List UInt8)) (k : Nat) (u : List UInt8) (h : us[k]? = some u) : layAll (us.drop k) = layB u ++ layAll (us.drop (k + 1)) := by
  have hk := (List.getElem?_eq_some_iff.1 h).1
  have he := (List.getElem?_eq_some_iff.1 h).2
  rw [List.drop_eq_getElem_cons hk, he]; rfl
theorem lay_parts (u R : List UInt8) : ∃ X, layB u ++ R = be 4 u.length ++ (be 4 (crc 0#32 u).toNat ++ (u ++ X)) := by
  unfold layB padB unitB
  simp only [List.append_assoc]
  exact ⟨_, rfl⟩
theorem unit_le {us : List (List UInt8)} {u : List UInt8} (h : u ∈ us) : unitSize u.length ≤ sizeAll us := by
  induction us with
  | nil => cases h
  | cons v us ih =>
    unfold sizeAll at *
    rw [List.map_cons, List.sum_cons]
    rcases List.mem_cons.1 h with rfl | h'
    · omega
    · have := ih h'; omega
/-- Units that were read: a row of slices of bytes of the call's own. -/
structure OwnV (w : World) (base : Nat) (s : Sl) (sls : List Sl) (us : List (List UInt8)) : Prop where
  own : w.ownsRow base 24 1 (.slice s.a s.n s.c) s.n (sls.map Sl.v)
  lu : us.length = s.n
  rd : ∀ (k : Nat) (sl : Sl) (l : List UInt8), sls[k]? = some sl → us[k]? = some l → RdB w sl.a sl.n l ∧ (sl.a = none → sl.c = 0) ∧ sl.n ≤ 1099511627776 ∧ ∀ b off sp, sl.a = some ⟨b, off, sp⟩ → base ≤ b ∧ b < w.heap.size ∧ s.v.ownBlock ≠ some b
section
variable {w w' W : World} {base : Nat} {s : Sl} {sls : List Sl} {us : List (List UInt8)}
theorem OwnV.nil (w : World) (base : Nat) : OwnV w base {} [] [] := ⟨World.ownsRow_nil w base 24 1, rfl, fun k sl l h _ => by simp at h⟩
theorem OwnV.len (h : OwnV w base s sls us) : sls.length = s.n := by have := h.own.1; simpa using this
theorem OwnV.below (h : OwnV w base s sls us) (hb : Below w.heap.size w w') : OwnV w' base s sls us :=
  ⟨(Chg.of_below hb []).owns h.own (fun _ _ hm => by cases hm), h.lu, fun k sl l h1 h2 => let ⟨a, b, c, d⟩ := h.rd k sl l h1 h2; ⟨a.below hb, b, c, fun q off sp e => ⟨(d q off sp e).1, Nat.lt_of_lt_of_le (d q off sp e).2.1 hb.size, (d q off sp e).2.2⟩⟩⟩
theorem OwnV.app (h : OwnV w base s sls us) (hW : Below w.heap.size w W) {t : Sl} {l : List UInt8} (hr : RdB w t.a t.n l) (hno : t.a = none → t.c = 0) (hn : t.n ≤ 1099511627776) (hb : ∀ b off sp, t.a = some ⟨b, off, sp⟩ → base ≤ b ∧ b < w.heap.size ∧ s.v.ownBlock ≠ some b) {a : Option Addr} {c : Nat}
    (ho : w'.ownsRow base 24 1 (.slice a (s.n + 1) c) (s.n + 1) (sls.map Sl.v ++ [t.v])) (hg : W.grownBy w' s.v.ownBlock) (hf : (Value.slice a (s.n + 1) c).ownBlock = s.v.ownBlock ∨ ∀ k, (Value.slice a (s.n + 1) c).ownBlock = some k → W.heap.size ≤ k) : OwnV w' base ⟨a, s.n + 1, c⟩ (sls ++ [t]) (us ++ [l]) := by
  have hc : Chg s.v.ownBlock.toList w w' := (Chg.of_below hW _).grown hg (fun k hk => .inl (by rw [hk]; simp))
  have key : ∀ (k : Nat) (sl : Sl) (m : List UInt8), (sls ++ [t])[k]? = some sl → (us ++ [l])[k]? = some m → RdB w sl.a sl.n m ∧ (sl.a = none → sl.c = 0) ∧ sl.n ≤ 1099511627776 ∧ ∀ b off sp, sl.a = some ⟨b, off, sp⟩ → base ≤ b ∧ b < w.heap.size ∧ s.v.ownBlock ≠ some b := fun k sl m h1 h2 => by
    have hlv := h.len; have hlx := h.lu
    rcases Nat.lt_or_ge k sls.length with hk | hk
    · rw [List.getElem?_append_left hk] at h1
      rw [List.getElem?_append_left (by omega)] at h2
      exact h.rd k sl m h1 h2
    · rw [List.getElem?_append_right hk] at h1
      rw [List.getElem?_append_right (by omega), show us.length = sls.length by omega] at h2
      cases hd : k - sls.length with
      | zero =>
        rw [hd] at h1 h2
        simp only [List.getElem?_cons_zero, Option.some.injEq] at h1 h2
        rw [← h1, ← h2]
        exact ⟨hr, hno, hn, hb⟩
      | succ j => rw [hd] at h1; simp at h1
  refine ⟨by rw [List.map_append, List.map_cons, List.map_nil]; exact ho, by rw [List.length_append, h.lu]; rfl, fun k sl m h1 h2 => ?_⟩
  obtain ⟨k1, k2, k3, k4⟩ := key k sl m h1 h2
  refine ⟨hc.rdB k1 (fun b off sp e hm => (k4 b off sp e).2.2 (mem_own'.1 hm)), k2, k3, fun b off sp e => ⟨(k4 b off sp e).1, Nat.lt_of_lt_of_le (k4 b off sp e).2.1 hc.size, fun he => ?_⟩⟩
  rcases hf with h' | h'
  · exact (k4 b off sp e).2.2 (by rw [← h']; exact he)
  · have h3 := h' b he
    have h4 := hW.size
    have h5 := (k4 b off sp e).2.1
    omega
theorem OwnV.unq (h : OwnV w base s sls us) : UnQ w (fun q => base ≤ q ∧ q < w.heap.size) s sls us := by
  have h3 := RdC.of_own h.own
  rw [Nat.mul_one] at h3
  refine ⟨h3, h.lu, (own_slice h.own).2.1, own_at h.own, fun k sl l h1 h2 => ?_⟩
  obtain ⟨k1, k2, k3, k4⟩ := h.rd k sl l h1 h2
  exact ⟨k1, k2, k3, fun b off sp e => ⟨(k4 b off sp e).1, (k4 b off sp e).2.1⟩⟩
theorem OwnV.un (h : OwnV w base s sls us) : UnA w s.a s.n us := by
  refine ⟨h.lu, fun k hk => ?_⟩
  have h1 : sls[k]? = some (sls[k]'(by rw [h.len]; exact hk)) := List.getElem?_eq_getElem _
  have h2 : us[k]? = some (us[k]'(by rw [h.lu]; exact hk)) := List.getElem?_eq_getElem _
  obtain ⟨k1, k2, k3, k4⟩ := h.rd k _ _ h1 h2
  have h3 := RdC.of_own h.own
  rw [Nat.mul_one] at h3
  obtain ⟨b, off, ha, hc⟩ := h3.cell k hk
  exact ⟨b, off, _, _, _, _, ha, h2, hc k _ (by rw [List.getElem?_map, h1]; rfl), k1, k2, k3⟩
end
def stRdT (l : List UInt8) : St Grow := ⟨fun v w => ∃ a n c, v = .tuple #[.slice a n c, .int .i64 0] ∧ RdB w a n l ∧ (a = none → c = 0), fun v w w' h hg => let ⟨a, n, c, e, h1, h2⟩ := h; ⟨a, n, c, e, h1.below hg, h2⟩⟩
def stRdS (l : List UInt8) : St Grow := ⟨fun v w => ∃ a n c, v = .slice a n c ∧ RdB w a n l ∧ (a = none → c = 0), fun v w w' h hg => let ⟨a, n, c, e, h1, h2⟩ := h; ⟨a, n, c, e, h1.below hg, h2⟩⟩
def stBy (l : List UInt8) : St Grow := ⟨fun v w => ∃ a c, v = .slice a l.length c ∧ RdB w a l.length l, fun v w w' h hg => let ⟨a, c, e, h1⟩ := h; ⟨a, c, e, h1.below hg⟩⟩
theorem usInfoV : (Try.prog.info? 24).map (fun i => (i.zero, i.size, i.bytes)) = some (some (.slice none 0 0), 1, 24) := by kernel_rfl
/-- While the sectors are read. -/
structure UnL1 (us : List (List UInt8)) (u0 : Nat) (w : World) (y4 y19 : Value) (wr : World) : Prop where
  ex : ∃ (k : Nat) (aa : Option Addr) (ca : Nat), y4 = .slice aa (64 * k) ca ∧ y19 = .int .i64 (k : Int) ∧ k ≤ u0 ∧ wr.ownsRow w.heap.size 5 1 (.slice aa (64 * k) ca) (64 * k) (((layAll us).take (64 * k)).map B8) ∧ Below w.heap.size w wr
/-- While the units are told apart. -/
structure UnL2 (us : List (List UInt8)) (w w1 : World) (y4 y8 : Value) (wr : World) : Prop where
  ex : ∃ (k : Nat) (aa : Option Addr) (n ca : Nat) (oa : Option Addr) (oc : Nat) (sls : List Sl), y4 = .slice aa n ca ∧ y8 = .slice oa k oc ∧ k ≤ us.length ∧ RdB w1 aa n (layAll (us.drop k)) ∧ (aa = none → ca = 0) ∧ n ≤ ca ∧ OwnV wr w1.heap.size ⟨oa, k, oc⟩ sls (us.take k) ∧ Below w1.heap.size w1 wr
def lenV : Value → Nat
  | .slice _ n _ => n
  | _ => 0
/-- What units answers. -/
def UnRes (us : List (List UInt8)) (w : World) (e : Ending) (w' : World) : Prop := ∃ (aU : Option Addr) (nU cU : Nat) (sls : List Sl), e = .returned (.tuple #[.slice aU nU cU, .int .i64 0]) ∧ UnQ w' (fun q => w.heap.size ≤ q ∧ q < w'.heap.size) ⟨aU, nU, cU⟩ sls us ∧ Below w.heap.size w w'
theorem unitsAny_any (pl p e0 a0 u0 : Nat) (at0 : Int) (us : List (List UInt8)) (s : DSt) (F : List Nat) (w : World) (hl : w.heap[pl]? = some (.cells (logArr p e0 (a0 : Int) (u0 : Int) at0 false) 118 (0, 0))) (h : Dk w p s F) (h2 : 2 ≤ s.sec.length) (h3 : s.sec.length ≤ 33554432) (ha0 : a0 ≤ 1) (hu0 : u0 ≤ (s.sec.length - 2) / 2) (hsz : sizeAll us = u0)
    (hrd : ∀ i : Nat, i < u0 → s.read ((2 + a0 * ((s.sec.length - 2) / 2) + i : Nat) : Int) = (chunk (layAll us) i, 0)) :
    Calls Try.prog 72 #[.pointer (some ⟨pl, 0, none⟩)] w (UnRes us w) := by
  obtain ⟨ib, hib, hbz0, hbz1, hbz2⟩ := info_parts dInfoB
  obtain ⟨i, hi, hz0, hz1, hz2⟩ := info_parts usInfoV
  have HL := hid hl; have HD := hid h; have HRD := hid hrd
  obtain ⟨ST, hST⟩ : ∃ x, 2 + a0 * ((s.sec.length - 2) / 2) = x := ⟨_, rfl⟩
  have HSB : Hid (ST + u0 ≤ s.sec.length) := by
    show _ ≤ _
    rw [← hST]
    rcases (show a0 = 0 ∨ a0 = 1 by omega) with rfl | rfl <;> omega
  have HST := hid hST
  have HU0 : Hid (u0 ≤ 33554432) := by show _ ≤ _; omega
  have HSZ := hid hsz
  have HLL : Hid ((layAll us).length = 64 * u0) := by show _ = _; rw [layAll_len, hsz]
  have H3 := hid h3
  clear hl h hrd hST hu0 hsz h3
  have hc3 : w.cell? ⟨pl, 3, none⟩ = some (.int .i64 (u0 : Int)) := cell_of_block (j := 3) HL.out rfl
  go_enter Try.func72, Try.ntmps72
  go_wp2_with fail
  clear hc3
  go_loopw [4, 19] (fun y4 y19 wr => UnL1 us u0 w y4 y19 wr) (fun _ y19 _ => u0 - (intOf y19).toNat)
  case atStart => exact ⟨⟨0, none, 0, rfl, rfl, Nat.zero_le _, World.ownsRow_nil _ _ _ _, Below.refl _ _⟩⟩
  case round =>
    obtain ⟨k, aa, ca, rfl, rfl, hkn, ho, hb⟩ := hrel.ex
    clear hrel
    have HO := hid ho; have HB := hid hb
    clear ho hb
    obtain ⟨na, hna⟩ : ∃ n, n = 64 * k := ⟨_, rfl⟩
    rw [← hna] at HO ⊢
    have HNA := hid hna
    clear hna
    by_cases hlt : k < u0
    · have hltz : (k : Int) < (u0 : Int) := by omega
      have hub := HU0.out
      go_upto_region 5 with (fail)
      have HLk := hid ((HB.out.block _ (block_lt HL.out)).trans HL.out)
      have HDk := hid (HD.out.below HB.out)
      have HS1 : Hid (IntKind.i64.wrap ((ST : Int) + (k : Int)) = ((ST + k : Nat) : Int)) := by have := HSB.out; have := H3.out; show _ = _; rw [IntWalk.i64_in _ (by omega)]; omega
      have HRK : Hid (s.read ((ST + k : Nat) : Int) = (chunk (layAll us) k, 0)) := by have h1 := HRD.out k hlt; rw [HST.out] at h1; exact h1
      have HKB : Hid (ST + k < s.sec.length) := by have := HSB.out; show _ < _; omega
      refine wp_region_each 19 [.eq (.pointer (some ⟨pl, 0, none⟩)), .eq (.pointer (some ⟨pl, 0, none⟩)), .eq (.pointer (some ⟨pl, 0, none⟩)), .eq (.pointer (some ⟨p, 0, none⟩)), .eq (.pointer (some ⟨pl, 0, none⟩)), .eq (.pointer (some ⟨pl, 0, none⟩)), .eq (.pointer (some ⟨pl, 0, none⟩)), .eq (.pointer (some ⟨pl, 1, none⟩)), .eq (.pointer (some ⟨pl, 2, none⟩)), .eq (.int .i64 (a0 : Int)), .eq (.int .i64 (ST : Int)), .eq (.int .i64 (k : Int)), .eq (.int .i64 ((ST + k : Nat) : Int)), stRdT (chunk (layAll us) k), stRdT (chunk (layAll us) k), stRdS (chunk (layAll us) k), .eq (.int .i64 0), stRdS (chunk (layAll us) k), .eq (.int .i64 0)] (by kernel_rfl) (by kernel_rfl) (by kernel_rfl) (by kernel_rfl) ?_ ?_
      · all_goals
          refine each_5 ?_ ?_ ?_ ?_ ?_ (each_5 ?_ ?_ ?_ ?_ ?_ (each_5 ?_ ?_ ?_ ?_ ?_ (each_c ?_ (each_c ?_ (each_c ?_ (each_c ?_ (each_n)))))))
          · intro w1 hg Ar seen
            have s0 := seen.sl 0 (.pointer (some ⟨pl, 0, none⟩))
            refine does_plain rfl fun K Q' hK => ?_
            go_simp; exact hK _ _ (Grow.refl _) rfl
          · intro w1 hg Ar seen
            have e0 := seen.de 0 23
            refine does_plain rfl fun K Q' hK => ?_
            go_simp; exact hK _ _ (Grow.refl _) rfl
          · intro w1 hg Ar seen
            have e1 := seen.de 1 24
            refine does_plain rfl fun K Q' hK => ?_
            go_simp; exact hK _ _ (Grow.refl _) rfl
          · intro w1 hg Ar seen
            have e2 := seen.de 2 25
            refine does_plain rfl fun K Q' hK => ?_
            have hc : w1.cell? ⟨pl, 0, none⟩ = some (.pointer (some ⟨p, 0, none⟩)) := cell_of_block (j := 0) ((hg.block _ (block_lt HLk.out)).trans HLk.out) rfl
            go_simp; exact hK _ _ (Grow.refl _) rfl
          · intro w1 hg Ar seen
            have s0 := seen.sl 0 (.pointer (some ⟨pl, 0, none⟩))
            refine does_plain rfl fun K Q' hK => ?_
            go_simp; exact hK _ _ (Grow.refl _) rfl
          · intro w1 hg Ar seen
            have s0 := seen.sl 0 (.pointer (some ⟨pl, 0, none⟩))
            refine does_plain rfl fun K Q' hK => ?_
            go_simp; exact hK _ _ (Grow.refl _) rfl
          · intro w1 hg Ar seen
            have e5 := seen.de 5 28
            refine does_plain rfl fun K Q' hK => ?_
            go_simp; exact hK _ _ (Grow.refl _) rfl
          · intro w1 hg Ar seen
            have e6 := seen.de 6 29
            refine does_plain rfl fun K Q' hK => ?_
            go_simp; exact hK _ _ (Grow.refl _) rfl
          · intro w1 hg Ar seen
            have e7 := seen.de 7 30
            refine does_plain rfl fun K Q' hK => ?_
            go_simp; exact hK _ _ (Grow.refl _) rfl
          · intro w1 hg Ar seen
            have e8 := seen.de 8 31
            refine does_plain rfl fun K Q' hK => ?_
            have hc : w1.cell? ⟨pl, 2, none⟩ = some (.int .i64 (a0 : Int)) := cell_of_block (j := 2) ((hg.block _ (block_lt HLk.out)).trans HLk.out) rfl
            go_simp; exact hK _ _ (Grow.refl _) rfl
          · intro w1 hg Ar seen
            have e4 := seen.de 4 27
            have e9 := seen.de 9 32
            refine does_plain rfl fun K Q' hK => ?_
            go_simp
            refine (logStart_any pl p e0 (a0 : Int) (u0 : Int) at0 false a0 s F _ ((hg.block _ (block_lt HLk.out)).trans HLk.out) (HDk.out.below hg) h2 (by have := H3.out; omega) ha0).mono ?_
            rintro e u ⟨rfl, rfl⟩
            exact hK _ _ (Grow.refl _) (congrArg (fun x : Nat => Value.int .i64 (x : Int)) HST.out)
          · intro w1 hg Ar seen
            have s5 := seen.sl 5 (.int .i64 (k : Int))
            refine does_plain rfl fun K Q' hK => ?_
            go_simp; exact hK _ _ (Grow.refl _) rfl
          · intro w1 hg Ar seen
            have e10 := seen.de 10 33
            have e11 := seen.de 11 34
            refine does_plain rfl fun K Q' hK => ?_
            have hs := HS1.out
            go_simp; exact hK _ _ (Grow.refl _) rfl
          · intro w1 hg Ar seen
            have e3 := seen.de 3 26
            have e12 := seen.de 12 35
            refine does_plain rfl fun K Q' hK => ?_
            go_simp
            refine (read_any p (ST + k) s F _ (HDk.out.below hg) HKB.out).mono ?_
            rw [HRK.out]
            rintro e u ⟨a2, n2, c2, rfl, hr2, hno2, hb2, -⟩
            exact hK _ _ hb2 ⟨a2, n2, c2, rfl, hr2, hno2⟩
          · intro w1 hg Ar seen
            obtain ⟨v13, e13, h13⟩ := seen.dp 13 36
            refine does_plain rfl fun K Q' hK => ?_
            go_simp
            exact hK _ _ (Grow.refl _) h13
          · intro w1 hg Ar seen
            obtain ⟨v14, e14, h14⟩ := seen.dp 14 22
            refine does_plain rfl fun K Q' hK => ?_
            obtain ⟨a2, n2, c2, rfl, hr2, hno2⟩ := h14
            go_simp
            exact hK _ _ (Grow.refl _) ⟨a2, n2, c2, rfl, hr2, hno2⟩
          · intro w1 hg Ar seen
            obtain ⟨v14, e14, h14⟩ := seen.dp 14 22
            refine does_plain rfl fun K Q' hK => ?_
            obtain ⟨a2, n2, c2, rfl, hr2, hno2⟩ := h14
            go_simp
            exact hK _ _ (Grow.refl _) rfl
          · intro w1 hg Ar seen
            obtain ⟨v15, e15, h15⟩ := seen.dp 15 37
            refine does_plain rfl fun K Q' hK => ?_
            go_simp
            exact hK _ _ (Grow.refl _) h15
          · intro w1 hg Ar seen
            have e16 := seen.de 16 38
            refine does_plain rfl fun K Q' hK => ?_
            go_simp; exact hK _ _ (Grow.refl _) rfl
      intro w1 hg
      refine upon_w' (js := [0, 1, 2, 3, 4, 5, 6, 7, 8, 9, 10, 11, 12, 13, 14, 15, 16, 17, 18]) (by rfl) ?_
      refine upon_e (some 23) (upon_e (some 24) (upon_e (some 25) (upon_e (some 26) (upon_e (some 27) (upon_e (some 28) (upon_e (some 29) (upon_e (some 30) (upon_e (some 31) (upon_e (some 32) (upon_e (some 33) (upon_e (some 34) (upon_e (some 35) (upon_v (some 36) fun v13 h13 => upon_v (some 22) fun v14 h14 => upon_v (some 37) fun v15 h15 => upon_e (some 38) (upon_v (some 6) fun v17 h17 => upon_e (some 7) (upon_n ?_)))))))))))))))
      go_simp
      obtain ⟨a2, n2, c2, rfl, hr2, hno2⟩ := h17
      have HR2 := hid hr2; have HNO2 := hid hno2
      have HB2 := hid (HB.out.trans (hg.mono HB.out.size))
      have HO2 := hid ((Chg.of_below hg []).owns HO.out (fun _ _ hm => by cases hm))
      have hn2 : n2 = 64 := by
        have h1 := hr2.len
        have h2 := HLL.out
        unfold chunk at h1
        rw [List.length_take, List.length_drop, h2] at h1
        omega
      subst hn2
      clear hr2 hno2 hg HO HB HLk HDk h13 h14 h15
      go_simp
      go_wp2_with (at_builtin; go_must (refine wpList_append_bytes rfl _ _ 24 rfl w.heap.size 5 ib _ Try.underlying24 hib hbz0 hbz1 hbz2 rfl _ na ((layAll us).take na) rfl HO2.out a2 64 c2 (chunk (layAll us) k) rfl HR2.out HNO2.out (by have h1 := HNA.out; have h2 := HU0.out; omega) HB2.out.size ?_); intro a' c' w3 hown hgw; have HO3 := hid hown; have HG3 := hid hgw; clear hown hgw)
      have HRR : UnL1 us u0 w (.slice a' (na + 64) c') (.int .i64 ((k : Int) + 1)) w3 := by
        have h1 := HNA.out
        have h2 : na + 64 = 64 * (k + 1) := by omega
        refine ⟨k + 1, a', c', by rw [← h2], by go_num, by omega, ?_, ?_⟩
        · rw [← h2]
          have h3 := HO3.out
          rw [h1, chunk_take] at h3
          rw [h2]
          rw [show 64 * k + 64 = 64 * (k + 1) by omega] at h3
          exact h3
        · exact HB2.out.trans (((Chg.refl _ w1).grown HG3.out (fun q hq => .inl (mem_own'.2 hq : q ∈ (Value.slice aa na ca).ownBlock.toList))).below (fun q hq => (HO2.out.lt q (mem_own'.1 hq)).1) HB2.out.size)
      go_roundw
      case rel => first | exact HRR | ((repeat apply Exists.intro); exact HRR) | ((repeat apply Exists.intro); exact ⟨HRR, rfl⟩)
      case measure => (simp [intOf] <;> omega)
    · have hltz : ¬ (k : Int) < (u0 : Int) := by omega
      obtain rfl : k = u0 := by omega
      have htk : (layAll us).take na = layAll us := List.take_of_length_le (by rw [HLL.out, HNA.out]; exact Nat.le_refl _)
      rw [← HNA.out] at HLL
      rw [htk] at HO
      have HRA := hid (RdB.of_own HO.out)
      have HSL := hid (own_slice HO.out)
      have HK0 : Hid (UnL2 us w wr (.slice aa na ca) (.slice none 0 0) wr) := ⟨0, aa, na, ca, none, 0, [], rfl, rfl, Nat.zero_le _, by rw [List.drop_zero]; exact HRA.out, HSL.out.2.1, HSL.out.1, by rw [List.take_zero]; exact OwnV.nil _ _, Below.refl _ _⟩
      clear htk HRA HSL HO
      go_wp2_with fail
      generalize wr = wA at *
      go_loopw [4, 8] (fun y4 y8 wx => UnL2 us w wA y4 y8 wx) (fun y4 _ _ => lenV y4)
      case atStart => exact HK0.out
      case round =>
        clear HK0
        obtain ⟨j, aj, n, c, oa, oc, sls, rfl, rfl, hju, hra, hno, hnc, hov, hbx⟩ := hrel.ex
        clear hrel
        have HRA := hid hra; have HNO := hid hno; have HOV := hid hov; have HBX := hid hbx
        clear hra hno hov hbx
        by_cases hj : j < us.length
        · obtain ⟨u, hu⟩ : ∃ u, us[j]? = some u := ⟨_, List.getElem?_eq_getElem hj⟩
          have HJB : Hid (j ≤ 33554432) := by have h1 := len_sizeAll us; rw [HSZ.out] at h1; have h2 := HU0.out; show _ ≤ _; omega
          have hla := layAll_at us j u hu
          have hlb := layB_len u
          have hus := unit_le (List.mem_of_getElem? hu)
          rw [HSZ.out] at hus
          have hnn := HRA.out.len
          rw [hla, List.length_append, hlb] at hnn
          obtain ⟨L, hL⟩ : ∃ L, u.length = L := ⟨_, rfl⟩
          have HL := hid hL
          obtain ⟨z, hz⟩ : ∃ z, z = 64 * unitSize u.length := ⟨_, rfl⟩
          rw [← hz] at hnn hlb
          have hLz : L + 8 ≤ z ∧ z ≤ 2147483648 + 64 := by
            rw [hz, hL]
            unfold unitSize
            have := HU0.out
            rw [hL] at hus
            unfold unitSize at hus
            omega
          have HZ := hid hz
          have hn0 : (0 : Int) < (n : Int) := by omega
          have hnm : n ≤ 2147483648 := by
            have h1 := HRA.out.len
            have h2 := layAll_len (us.drop j)
            have h3 : sizeAll (us.drop j) ≤ sizeAll us := by
              conv => rhs; rw [← List.take_append_drop j us]
              unfold sizeAll
              rw [List.map_append, List.sum_append]
              omega
            rw [HSZ.out] at h3
            have := HU0.out
            omega
          obtain ⟨X, hX⟩ := lay_parts u (layAll (us.drop (j + 1)))
          have HLA := hid hla; have HX := hid hX; have HUJ := hid hu; have HLB := hid hlb; have HNN := hid hnn
          have HDR : Hid (RdB wA aj n (be 4 L ++ (be 4 (crc 0#32 u).toNat ++ (u ++ X)))) := by show RdB _ _ _ _; rw [← hL, ← hX, ← hla]; exact HRA.out
          have HRX := hid (HDR.out.below HBX.out)
          have hLw : L < 4294967296 := by
            rw [← hL]
            have := HNN.out
            have h1 := hLz.1
            have h2 := hus
            unfold unitSize at h2
            rw [hL] at h2 ⊢
            have := HU0.out
            omega
          clear hla hX hu hlb hnn hz hL hus
          go_wp2_with fail
          refine (oNewReader_any aj n c _ _ HRX.out HNO.out (by omega)).mono ?_
          rintro e w3 ⟨q, F3, rfl, hq3, hF3, hb3⟩
          obtain ⟨S, hS⟩ : ∃ S, (crc 0#32 u).toNat = S := ⟨_, rfl⟩
          have hS32 : S < 4294967296 := by rw [← hS]; exact (crc 0#32 u).isLt
          rw [hS] at hq3
          have HS := hid hS
          have HQ3 := hid hq3; have HF3 := hid hF3; have HB3 := hid hb3
          have HQM : Hid (wr.heap.size ≤ q) := by obtain ⟨_, _, _, _, _, _, _, _, _, hF⟩ := hq3; exact hF3 q (by rw [hF]; simp)
          have HXL : Hid ((be 4 L ++ (be 4 S ++ (u ++ X))).length = n) := by rw [← hS]; exact HDR.out.len
          have HX2 : Hid ((be 4 S ++ (u ++ X)).length + 4 = n) := by have h1 := HXL.out; rw [List.length_append, be_len] at h1; show _ = _; omega
          have HX3 : Hid ((u ++ X).length + 8 = n) := by have h1 := HX2.out; rw [List.length_append, be_len] at h1; show _ = _; omega
          clear hq3 hF3 hb3 hS HRX
          dsimp only
          go_wp2_with fail
          obtain ⟨k1, k2, k3⟩ := take_be 4 L (be 4 S ++ (u ++ X))
          rw [show ((4 : Nat) : Int) = 4 from rfl] at k1 k2 k3
          refine (oRU32_any q _ _ F3 _ HQ3.out (by rw [HXL.out]; omega)).mono ?_
          rw [k1, k2, k3, num_be 4 L (by decide), asInt_small _ (by omega), show L % 256 ^ 4 = L by omega]
          clear k1 k2 k3
          rintro e w4 ⟨rfl, hc4, F4, hq4, hf4⟩
          have HQ4 := hid hq4; have HC4 := hid hc4
          clear hq4 hc4 hf4
          dsimp only
          go_wp2_with fail
          obtain ⟨k1, k2, k3⟩ := take_be 4 S (u ++ X)
          rw [show ((4 : Nat) : Int) = 4 from rfl] at k1 k2 k3
          refine (oRU32_any q _ _ F4 _ HQ4.out (by have := HX2.out; omega)).mono ?_
          rw [k1, k2, k3, num_be 4 S (by decide), asInt_small _ (by omega), show S % 256 ^ 4 = S by omega]
          clear k1 k2 k3
          rintro e w5 ⟨rfl, hc5, F5, hq5, hf5⟩
          have HQ5 := hid hq5; have HC5 := hid (HC4.out.trans hc5 (fun k hk => .inl hk))
          clear hq5 hc5 hf5 HQ4 HC4 HQ3
          dsimp only
          go_wp2_with fail
          refine (oLeft_any q _ _ F5 _ HQ5.out).mono ?_
          rintro e wz ⟨rfl, rfl⟩
          dsimp only
          obtain ⟨lf, hlf⟩ : ∃ x, (u ++ X).length = x := ⟨_, rfl⟩
          rw [hlf]
          have hlfL : ¬ ((lf : Int) < (L : Int)) := by have h1 := HL.out; rw [← hlf, List.length_append, h1]; omega
          clear hlf
          go_wp2_with fail
          clear hlfL
          have k1 : taken (u ++ X) false (L : Int) = u := by
            have h1 := taken_good (l := u ++ X) (k := L) (by rw [List.length_append, HL.out]; omega)
            rw [h1.1, ← HL.out, List.take_left]
          refine (oTake_any q (u ++ X) false F5 (L : Int) _ HQ5.out (by have := HX3.out; omega)).mono ?_
          rw [k1]
          clear k1
          rintro e w6 ⟨ua, un, uc, rfl, ho6, hc6, -⟩
          dsimp only
          obtain rfl : L = un := by have h1 := ho6.1; have h2 := HL.out; simp at h1; omega
          have B6 : Hid (Below wr.heap.size wr w6) := by
            have c6 := HC5.out.trans hc6 (fun k hk => .inl hk)
            exact HB3.out.trans (c6.below (fun k hk => by rw [List.mem_singleton.1 hk]; exact HQM.out) HB3.out.size)
          have HU6 := hid (RdB.of_own ho6)
          have HUN := hid (own_slice ho6).2.1
          have HUB : Hid (∀ b off sp, ua = some ⟨b, off, sp⟩ → wr.heap.size ≤ b ∧ b < w6.heap.size) := fun b off sp e => by
            have h1 := own_at ho6 b off sp e
            have h2 := (HB3.out.trans (HC5.out.below (fun k hk => by rw [List.mem_singleton.1 hk]; exact HQM.out) HB3.out.size)).size
            omega
          clear ho6 hc6 HC5 HQ5 HQM HF3 HB3
          have HBX6 := hid (HBX.out.trans (B6.out.mono HBX.out.size))
          have HOV6 := hid (HOV.out.below B6.out)
          have HWAR := hid HBX.out.size
          have HOLT : Hid (∀ q, (Sl.mk oa j oc).v.ownBlock = some q → q < wr.heap.size) := fun q hq => (HOV.out.own.lt q hq).2
          clear HBX HOV B6
          go_wp2_with fail
          refine (size_any ua L uc _ (by omega)).mono ?_
          rintro e wz ⟨rfl, rfl⟩
          dsimp only
          have HZL : Hid (z = 64 * unitSize L) := by show _ = _; rw [HZ.out, HL.out]
          have hmul : IntKind.i64.wrap (((unitSize L : Nat) : Int) * 64) = (z : Int) := by have h1 := HZL.out; rw [IntWalk.i64_in _ (by omega)]; omega
          obtain ⟨US, hUS⟩ : ∃ x, unitSize L = x := ⟨_, rfl⟩
          rw [hUS] at hmul ⊢
          clear hUS
          go_upto_region 18 with (fail)
          clear hmul
          have HRT : Hid (RdB w6 aj z (layB u)) := by
            have h1 := ((HDR.out.below HBX6.out).take (k := z) (by have := HNN.out; omega))
            rw [HL.out.symm, ← HX.out] at h1
            have h2 : (layB u ++ layAll (us.drop (j + 1))).take z = layB u := by rw [← HLB.out, List.take_left]
            rw [h2] at h1
            exact h1
          have hsl1 := fun w => run_slice_front (P := Try.prog) 24 5 1 Try.underlying24 (fun w => by kernel_rfl) aj n c z (by have := HNN.out; omega) w
          have HSL1 := hid hsl1
          clear hsl1
          have HCU : Hid (IntKind.i64.wrap (S : Int) = (S : Int)) := by show _ = _; exact IntWalk.i64_in _ (by omega)
          refine wp_region_each 14 [.eq (.slice ua L uc), .eq (.int .u32 (S : Int)), .eq (.int .i64 (S : Int)), .eq (.int .i64 (S : Int)), .eq (.bool false), .eq (.bool false), .eq (.slice aj n c), .eq (.int .i64 (z : Int)), .eq (.slice aj z c), .eq (.slice ua L uc), stBy (layB u), .eq (.bool true), .eq (.bool false), .eq (.bool false)] (by kernel_rfl) (by kernel_rfl) (by kernel_rfl) (by kernel_rfl) ?_ ?_
          · all_goals
              refine each_5 ?_ ?_ ?_ ?_ ?_ (each_5 ?_ ?_ ?_ ?_ ?_ (each_c ?_ (each_c ?_ (each_c ?_ (each_c ?_ (each_n))))))
              · intro w1 hg Ar seen
                have s12 := seen.sl 12 (.slice ua L uc)
                refine does_plain rfl fun K Q' hK => ?_
                go_simp; exact hK _ _ (Grow.refl _) rfl
              · intro w1 hg Ar seen
                have e0 := seen.de 0 64
                refine does_plain rfl fun K Q' hK => ?_
                go_simp
                refine (sum_any ua L uc u _ (HU6.out.below hg) (by unfold maxLen; omega)).mono ?_
                rintro e u' ⟨rfl, rfl⟩
                exact hK _ _ (Grow.refl _) (congrArg (fun x : Nat => Value.int .u32 (x : Int)) HS.out)
              · intro w1 hg Ar seen
                have e1 := seen.de 1 65
                refine does_plain rfl fun K Q' hK => ?_
                have hc := HCU.out
                go_simp; exact hK _ _ (Grow.refl _) rfl
              · intro w1 hg Ar seen
                have s11 := seen.sl 11 (.int .i64 (S : Int))
                refine does_plain rfl fun K Q' hK => ?_
                go_simp; exact hK _ _ (Grow.refl _) rfl
              · intro w1 hg Ar seen
                have e2 := seen.de 2 66
                have e3 := seen.de 3 67
                refine does_plain rfl fun K Q' hK => ?_
                go_simp; exact hK _ _ (Grow.refl _) rfl
              · intro w1 hg Ar seen
                have e4 := seen.de 4 68
                refine does_plain rfl fun K Q' hK => ?_
                go_simp; exact hK _ _ (Grow.refl _) rfl
              · intro w1 hg Ar seen
                have e5 := seen.de 5 69
                have s4 := seen.sl 4 (.slice aj n c)
                refine does_on rfl (by kernel_rfl) e5 fun K Q' hK => ?_
                clear e5
                go_simp; exact hK _ _ (Grow.refl _) rfl
              · intro w1 hg Ar seen
                have e5 := seen.de 5 69
                have s13 := seen.sl 13 (.int .i64 (z : Int))
                refine does_on rfl (by kernel_rfl) e5 fun K Q' hK => ?_
                clear e5
                go_simp; exact hK _ _ (Grow.refl _) rfl
              · intro w1 hg Ar seen
                have e6 := seen.de 6 70
                have e7 := seen.de 7 71
                have e5 := seen.de 5 69
                refine does_on rfl (by kernel_rfl) e5 fun K Q' hK => ?_
                clear e5
                have hc := HSL1.out
                go_simp; exact hK _ _ (Grow.refl _) rfl
              · intro w1 hg Ar seen
                have e5 := seen.de 5 69
                have s12 := seen.sl 12 (.slice ua L uc)
                refine does_on rfl (by kernel_rfl) e5 fun K Q' hK => ?_
                clear e5
                go_simp; exact hK _ _ (Grow.refl _) rfl
              · intro w1 hg Ar seen
                have e9 := seen.de 9 73
                have e5 := seen.de 5 69
                refine does_on rfl (by kernel_rfl) e5 fun K Q' hK => ?_
                clear e5
                go_simp
                refine (lay_any ua L uc u _ (HU6.out.below hg) HUN.out (by omega)).mono ?_
                rintro e u' ⟨a', c', rfl, ho, hb⟩
                exact hK _ _ hb ⟨a', c', rfl, RdB.of_own ho⟩
              · intro w1 hg Ar seen
                have e8 := seen.de 8 72
                obtain ⟨v10, e10, h10⟩ := seen.dp 10 74
                have e5 := seen.de 5 69
                refine does_on rfl (by kernel_rfl) e5 fun K Q' hK => ?_
                clear e5
                obtain ⟨a', c', rfl, hr10⟩ := h10
                go_simp
                refine (equalB_any aj a' z c _ c' (layB u) (layB u) _ (HRT.out.below hg) hr10 (by omega)).mono ?_
                rintro e u' ⟨rfl, hb⟩
                exact hK _ _ hb (congrArg Value.bool (decide_eq_true rfl))
              · intro w1 hg Ar seen
                have e11 := seen.de 11 75
                have e5 := seen.de 5 69
                refine does_on rfl (by kernel_rfl) e5 fun K Q' hK => ?_
                clear e5
                go_simp; exact hK _ _ (Grow.refl _) rfl
              · intro w1 hg Ar seen
                have e5 := seen.de 5 69
                have e12 := seen.de 12 76
                refine does_plain rfl fun K Q' hK => ?_
                go_simp; exact hK _ _ (Grow.refl _) rfl
          intro w1 hg
          refine upon_w' (js := [0, 1, 2, 3, 4, 5, 6, 7, 8, 9, 10, 11, 12, 13]) (by rfl) ?_
          refine upon_e (some 64) (upon_e (some 65) (upon_e (some 66) (upon_e (some 67) (upon_e (some 68) (upon_e (some 69) (upon_e (some 70) (upon_e (some 71) (upon_e (some 72) (upon_e (some 73) (upon_v (some 74) fun v10 h10 => upon_e (some 75) (upon_e (some 76) (upon_e (some 77) (upon_n ?_)))))))))))))
          go_simp
          obtain ⟨xa, xc, rfl, -⟩ := h10
          have HBX7 := hid (HBX6.out.trans (hg.mono HBX6.out.size))
          have HOV7 := hid (HOV6.out.below hg)
          have HU7 := hid (HU6.out.below hg)
          have HG := hid hg.size
          clear hg HBX6 HOV6 HU6 HSL1 HCU
          try dsimp only
          go_simp
          go_upto_region 20 with (fail)
          obtain ⟨a9, ha9⟩ : ∃ x, (if c = z then aj else aj.map (·.add (z * 1))) = x := ⟨_, rfl⟩
          have hzn : z ≤ n := by have := HNN.out; omega
          have HDF := hid (drop_facts HRA.out hzn hnc HNO.out ha9)
          have hslb := fun w => run_slice_back (P := Try.prog) 24 5 1 Try.underlying24 (fun w => by kernel_rfl) aj n c z hzn w
          rw [ha9] at hslb
          go_wp2_with (at_builtin; go_must (refine wpList_append_c rfl _ _ 89 rfl wA.heap.size 24 i _ 1 24 Try.underlying89 hi hz0 hz1 hz2 rfl (by decide) (.slice oa j oc) j _ rfl ((Chg.of_below ((Below.refl _ w1).alloc (Nat.le_refl _) _) []).owns HOV7.out.own (fun _ _ hm => by cases hm)) _ 1 _ [.slice ua L uc] rfl (RdC.of_block1 (block_new w1 _)) (by intro u hu; rw [List.mem_singleton.1 hu]; rfl) (fun hx => by cases hx) (by have := HJB.out; unfold maxLen; omega) (by have := HJB.out; omega) (Nat.le_trans HBX7.out.size (by simp)) ?_); intro a' c' w8 hown hgw hfr; have HOWN := hid hown; have HGRW := hid hgw; have HFRS := hid hfr; clear hown hgw hfr)
          have hc8 : Chg (Sl.mk oa j oc).v.ownBlock.toList w1 w8 := (Chg.of_below ((Below.refl _ w1).alloc (Nat.le_refl _) _) _).grown HGRW.out (fun q hq => .inl (mem_own'.2 hq))
          have HO9 := hid (HOV7.out.app ((Below.refl _ w1).alloc (Nat.le_refl _) _) (t := ⟨ua, L, uc⟩) HU7.out HUN.out (by show L ≤ _; omega) (fun b off sp e => by
            have h3 := HUB.out b off sp e
            have h4 := HG.out
            exact ⟨Nat.le_trans HWAR.out h3.1, by omega, fun he => by have := HOLT.out b he; omega⟩) HOWN.out HGRW.out HFRS.out)
          have HBX9 : Hid (Below wA.heap.size wA w8) := HBX7.out.trans (hc8.below (fun q hq => (HOV7.out.own.lt q (mem_own'.1 hq)).1) HBX7.out.size)
          have htk : us.take (j + 1) = us.take j ++ [u] := take_snoc HUJ.out
          rw [← htk] at HO9
          have HRR : UnL2 us w wA (.slice a9 (n - z) (c - z)) (.slice a' (j + 1) c') w8 := by
            obtain ⟨d1, d2, d3, d4⟩ := HDF.out
            rw [HLA.out, List.drop_left' HLB.out] at d1
            exact ⟨j + 1, a9, _, _, a', c', _, rfl, rfl, by omega, d1, d2, by omega, HO9.out, HBX9.out⟩
          clear hc8 htk ha9 HDF HO9 HBX9
          go_roundw
          case rel => first | exact HRR | ((repeat apply Exists.intro); exact HRR) | ((repeat apply Exists.intro); exact ⟨HRR, rfl⟩)
          case measure => (simp [lenV] <;> omega)
        · have hn0 : ¬ (0 : Int) < (n : Int) := by
            have h1 := HRA.out.len
            rw [List.drop_eq_nil_of_le (by omega)] at h1
            have h2 : (layAll []).length = 0 := rfl
            omega
          go_wp2_with fail
          go_ret2
          have h1 := HOV.out.unq
          rw [List.take_of_length_le (by omega)] at h1
          exact ⟨oa, j, oc, sls, rfl, h1.wide (fun q hq => ⟨Nat.le_trans HB.out.size hq.1, hq.2⟩), HB.out.trans (HBX.out.mono HB.out.size)⟩
end Go.Proofs.Ytipkeifpkemcdaa
