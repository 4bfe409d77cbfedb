/- PayParses: the walk. -/
import Derived.Test.YtpcbofgjnbdfhaaPay14
namespace Go.Proofs.Ytpcbofgjnbdfhaa
open Go.RowKit
set_option linter.unusedVariables false
set_option linter.unusedSimpArgs false
set_option maxRecDepth 100000
set_option maxHeartbeats 3200000
theorem wp_store_at {P : Program} {w : World} {op : Oper} {a : Act} {K : Act → World → Prop} {Q : Exit → Act → World → Prop} (ty : TypeId) (x y : Operand) (ho : op.op = .store ty x y)
    (g o : Nat) (hx : a.eval x = .pointer (some ⟨g, o, none⟩)) (v : ItV) (hy : a.eval y = .agg v.arr) {base n c : Nat} {T : TypeId} {l : List ItV} (hown : w.ownsRow base T 5 (.slice (some ⟨g, 0, none⟩) n c) n (itmCells l)) (k : Nat) (hk : k < n) (ho5 : o = k * 5)
    (hi : (P.info? ty).map (·.size) = some 5) (h1 : v.arr.all (·.oneCell') = true)
    (h : ∀ w', w'.ownsRow base T 5 (.slice (some ⟨g, 0, none⟩) n c) n (itmCells (l.set k v)) → Chg [g] w w' → w'.heap.size = w.heap.size → K (a.put op.dst undef) w') : op.wp P a w K Q := by
  subst ho5
  have hll : l.length = n := by have := hown.1; rw [itm_len] at this; omega
  rcases hown.2 with ⟨hv, h0⟩ | ⟨g', cap, cur, hv, hg, hh, hnc, hcm, hcs, ht⟩
  · cases hv
  · simp only [Value.slice.injEq, Option.some.injEq, Addr.mk.injEq] at hv
    obtain ⟨⟨rfl, _⟩, _, rfl⟩ := hv
    have hroom : k * 5 + 5 ≤ cur.size := by rw [hcs]; have := Nat.mul_le_mul_right 5 hnc; omega
    have hvl : v.arr.toList.length = 5 := rfl
    refine wp_store_mid ty x y ho g (k * 5) v.arr hx hy ?_ hi h1 (h _ ?_ ?_ ?_)
    · intro j hj
      have hj5 : j < 5 := hj
      refine ⟨?_, frozen_of_block hh⟩
      rw [cell_of_block hh (Array.getElem?_eq_getElem (by omega))]; rfl
    · refine ⟨by rw [itm_len, List.length_set, hll], .inr ⟨g, c, setSeg cur (k * 5) v.arr.toList, rfl, hg, setCells_block _ _ _ _ hh, hnc, hcm, by rw [setSeg_size]; exact hcs, ?_⟩⟩
      refine List.ext_getElem? fun q => ?_
      rw [itm_set l k v (by omega) q, List.getElem?_take]
      by_cases hq : q < n * 5
      · rw [if_pos hq, Array.getElem?_toList, setSeg_get _ _ _ _ (by rw [hvl]; exact hroom), hvl]
        by_cases hqn : k * 5 ≤ q ∧ q < k * 5 + 5
        · rw [if_pos hqn, if_pos hqn]
        · rw [if_neg hqn, if_neg hqn]
          have := congrArg (fun l => l[q]?) ht
          simp only [List.getElem?_take, if_pos hq] at this
          simpa using this
      · rw [if_neg hq, if_neg (by omega), List.getElem?_eq_none (by rw [itm_len]; omega)]
    · exact setCells_chg _ _ _ (Chg.refl _ _) (.inl (by simp))
    · have : ∀ (vs : List Value) (o : Nat) (w : World), (w.setCells g o vs).heap.size = w.heap.size := by
        intro vs
        induction vs with
        | nil => intro o w; rfl
        | cons v r ih => intro o w; rw [World.setCells, ih]; simp [World.setCell]
      exact this _ _ _
theorem Chg.trans1' {b : Nat} (x y z : World) (h : Chg [b] x y) (k : Chg [b] y z) : Chg [b] x z := h.trans k (fun k hk => .inl hk)
theorem Up.lt' {md : Region.Mode} {ops : Array Oper} {listed : Array Bool} {i : Nat} {o : Oper} (h : Up md ops listed i o) : i < listed.size := by rw [h.size]; exact h.lt
/-- A row as far as the region's two stores have come. -/
def SwX (T : TypeId) (z : Nat) (so : Sl) (l l1 l2 : List ItV) (listed : Array Bool) (w : World) : Prop :=
  w.ownsRow z T 5 (.slice so.a so.n so.c) so.n (itmCells (if listed.getD 21 false = true then l2 else if listed.getD 19 false = true then l1 else l))
section
variable {T : TypeId} {z : Nat} {so : Sl} {l l1 l2 : List ItV} {listed : Array Bool} {w w' : World} {i : Nat}
theorem SwX.start (h : w.ownsRow z T 5 (.slice so.a so.n so.c) so.n (itmCells l)) (n : Nat) : SwX T z so l l1 l2 (Array.replicate n false) w.drew := by
  have e : ∀ k, (Array.replicate n false).getD k false = false := fun k => by simp only [Array.getD_eq_getD_getElem?]; rcases Nat.lt_or_ge k n with h' | h' <;> simp [h', Nat.not_lt.2]
  unfold SwX
  rw [e, e]
  exact ((Chg.refl [] w).drew).owns h (fun k _ hm => by cases hm)
theorem SwX.same (h : SwX T z so l l1 l2 listed w) (hi : (i != 19 && i != 21) = true) : SwX T z so l l1 l2 (listed.setIfInBounds i true) w := by
  simp only [Bool.and_eq_true, bne_iff_ne, ne_eq] at hi
  unfold SwX at *
  rw [getD_set_ne false hi.2, getD_set_ne false hi.1]
  exact h
theorem SwX.old (h : SwX T z so l l1 l2 listed w) (h1 : listed.getD 19 false = false) (h2 : listed.getD 21 false = false) : w.ownsRow z T 5 (.slice so.a so.n so.c) so.n (itmCells l) := by
  unfold SwX at h; rw [h1, h2] at h; exact h
theorem SwX.mid (h : SwX T z so l l1 l2 listed w) (h1 : listed.getD 19 false = true) (h2 : listed.getD 21 false = false) : w.ownsRow z T 5 (.slice so.a so.n so.c) so.n (itmCells l1) := by
  unfold SwX at h; rw [h1, h2] at h; exact h
theorem SwX.fin (h : SwX T z so l l1 l2 listed w) (h2 : listed.getD 21 false = true) : w.ownsRow z T 5 (.slice so.a so.n so.c) so.n (itmCells l2) := by
  unfold SwX at h; rw [h2] at h; exact h
theorem SwX.one (hi : 19 < listed.size) (h2 : listed.getD 21 false = false) (h : w.ownsRow z T 5 (.slice so.a so.n so.c) so.n (itmCells l1)) : SwX T z so l l1 l2 (listed.setIfInBounds 19 true) w := by
  unfold SwX
  rw [getD_set_ne false (by decide), h2, show (listed.setIfInBounds 19 true).getD 19 false = true by simp [hi]]
  exact h
theorem SwX.two (hi : 21 < listed.size) (h : w.ownsRow z T 5 (.slice so.a so.n so.c) so.n (itmCells l2)) : SwX T z so l l1 l2 (listed.setIfInBounds 21 true) w := by
  unfold SwX
  rw [show (listed.setIfInBounds 21 true).getD 21 false = true by simp [hi]]
  exact h
end
theorem itm_range {T : TypeId} {w : World} {z g n c : Nat} {l : List ItV} (h : w.ownsRow z T 5 (.slice (some ⟨g, 0, none⟩) n c) n (itmCells l)) {k : Nat} {y : ItV} (hy : l[k]? = some y) (hk : k < n) : w.rangeAt g (k * 5) y.cells := by
  intro j v hv
  have hj : j < 5 := by have := (List.getElem?_eq_some_iff.1 hv).1; exact this
  rcases h.2 with ⟨hv', h0⟩ | ⟨g', cap, cur, hv', hg, hh, hnc, hcm, hcs, ht⟩
  · cases hv'
  · simp only [Value.slice.injEq, Option.some.injEq, Addr.mk.injEq] at hv'
    obtain ⟨⟨rfl, _⟩, _, rfl⟩ := hv'
    refine cell_of_block hh ?_
    have := congrArg (fun l => l[k * 5 + j]?) ht
    simp only [List.getElem?_take, if_pos (show k * 5 + j < n * 5 by omega)] at this
    rw [itm_get l k j y hy hj, hv] at this
    simpa using this
theorem tmod_in (a n : Int) (h : 0 < n) : -n < a.tmod n ∧ a.tmod n < n := ⟨Int.lt_tmod_of_pos a h, Int.tmod_lt_of_pos a h⟩
theorem parseV_len {l : List Fld} {i : Itm} {rows : List (List Itm)} (h : parseV l i = .ok rows) : rows.length = l.length := by
  unfold parseV at h
  split at h
  · cases h
  · split at h
    · cases h
    · rename_i st hst
      split at h
      · cases h
      · cases h
        have := parseKids_len _ _ _ hst
        rw [this]; simp
theorem it_ks (s : Sl) (l : List ItV) : ItV.it { ks := s, kids := l } = { kids := l.map ItV.it } := by rw [ItV.it_eq]
def stNewFB (B : Nat) : St Grow := ⟨fun v w => ∃ p, v = .pointer (some ⟨p, 0, none⟩) ∧ w.heap[p]? = some (.cells fldZ.arr 28 (0, 0)) ∧ B ≤ p, fun v w w' h hg => let ⟨p, e, h1, h2⟩ := h; ⟨p, e, (hg.block _ (block_lt h1)).trans h1, h2⟩⟩
def pfld (y : RawD) : Fld := { tag := 1 + pick y.a 5, typ := 1 + pick y.b 12 / 6, need := (y.c.tmod 3 == 0), many := (y.c.tmod 2 == 0) }
/-- What stands in PayParses behind the fields: the item's box, its kids' row, the fields' row. -/
structure PPs (w : World) (b z px : Nat) (so : Sl) (t : Int) (sF : Sl) (fl : List Fld) (l : List ItV) (W : World) : Prop where
  bel : Below b w W
  own : W.ownsRow z 33 5 (.slice so.a so.n so.c) so.n (itmCells l)
  flat : ∀ x ∈ l, Flat x
  xb : W.heap[px]? = some (.cells (ItV.arr { tag := 9, typ := t, ks := so }) 33 (0, 0))
  fld : OwnF W b sF fl
  low : b ≤ z
  zpx : z ≤ px
  apart : ∀ q, so.v.ownBlock = some q → q < px
section
variable {w W W' : World} {b z px : Nat} {so sF : Sl} {t : Int} {fl : List Fld} {l l' : List ItV}
theorem PPs.lt (h : PPs w b z px so t sF fl l W) : b ≤ W.heap.size := by have := block_lt h.xb; have := h.low; have := h.zpx; omega
theorem PPs.below (h : PPs w b z px so t sF fl l W) (hb : Below W.heap.size W W') : PPs w b z px so t sF fl l W' :=
  ⟨h.bel.trans (hb.mono h.lt), (Chg.of_below hb []).owns h.own (fun k _ hm => by cases hm), h.flat, (hb.block _ (block_lt h.xb)).trans h.xb, h.fld.below hb, h.low, h.zpx, h.apart⟩
theorem PPs.swap {g : Nat} (h : PPs w b z px so t sF fl l W) (hg : so.a = some ⟨g, 0, none⟩) (hc : Chg [g] W W') (ho : W'.ownsRow z 33 5 (.slice so.a so.n so.c) so.n (itmCells l')) (hf : ∀ x ∈ l', Flat x) : PPs w b z px so t sF fl l' W' := by
  have hgo : so.v.ownBlock = some g := by unfold Sl.v; rw [hg]; rfl
  have hlt := h.own.lt g hgo
  have hlow := h.low
  have hap := h.apart g hgo
  refine ⟨h.bel.trans (hc.below (fun k hk => by rw [List.mem_singleton.1 hk]; omega) h.lt), ho, hf, (hc.block _ (block_lt h.xb) (by simp; omega)).trans h.xb, hc.owns h.fld (fun q hq hm => ?_), h.low, h.zpx, h.apart⟩
  rw [List.mem_singleton.1 hm] at hq
  exact typ_ne h.own h.fld (by decide) hgo hq
theorem PPs.typ2 (h : PPs w b z px so 1 sF fl l W) : PPs w b z px so 2 sF fl l (W.setCell ⟨px, 1, none⟩ (.int .i64 2)) := by
  have hc : Chg [px] W (W.setCell ⟨px, 1, none⟩ (.int .i64 2)) := (Chg.refl [px] W).setCell (.inl (by simp)) _
  have h1 := h.low; have h2 := h.zpx
  refine ⟨h.bel.trans (hc.below (fun k hk => by rw [List.mem_singleton.1 hk]; omega) h.lt), hc.owns h.own (fun q hq hm => ?_), h.flat, block_setCell h.xb _, hc.owns h.fld (fun q hq hm => ?_), h.low, h.zpx, h.apart⟩
  · have := h.apart q hq; have := List.mem_singleton.1 hm; omega
  · rw [List.mem_singleton.1 hm] at hq
    rcases h.fld.2 with ⟨hv, _⟩ | ⟨g', cap, cur, hv, hg, hh, _⟩
    · rw [hv] at hq; cases hq
    · rw [hv] at hq
      cases hq
      have := h.xb
      rw [hh] at this
      simp only [Option.some.injEq, Obj.cells.injEq] at this
      exact absurd this.2.1 (by decide)
theorem PPs.item (h : PPs w b z px so t sF fl l W) (hn : so.n ≤ 1099511627776) : ItV.ok W { tag := 9, typ := t, ks := so, kids := l } :=
  ItV.ok_iff.2 ⟨SlC.nil _, SlR.of_own h.own hn, fun x hx => (h.flat x hx).2 W⟩
end
theorem payParses_walk (lk lf : List RawD) (kind : Int) (hkd : -9223372036854775808 ≤ kind ∧ kind ≤ 9223372036854775807) (sorted : Bool) (aK : Option Addr) (nK cK : Nat) (aF : Option Addr) (nF cF : Nat) (w : World) (hak : ArgSl 4 RawR w (.slice aK nK cK) lk) (haf : ArgSl 4 RawR w (.slice aF nF cF) lf) :
    Calls Try.prog 3 #[.slice aK nK cK, .slice aF nF cF, .int .i64 kind, .bool sorted] w fun e w' => e = .returned (.bool true) ∧ Below w.heap.size w w' := by
  obtain ⟨i1, hi1, hy0, hy1, hy2⟩ := info_parts fInfo
  have HAK := hid hak; have HAF := hid haf
  have hnF : nF ≤ 140737488355328 := (argSl_len haf).2
  have HKM : Hid (IntKind.i64.wrap (kind.tmod 12) = kind.tmod 12) := IntWalk.i64_in _ (by have := tmod_in kind 12 (by decide); omega)
  clear hak haf
  generalize hbe : w.heap.size = b
  have HBE := hid hbe; clear hbe
  go_enter Try.func3, Try.ntmps3
  go_upto_block 0 with (fail)
  go_cut [9] (fun u9 wx => ∃ (sF : Sl) (fl : List Fld), u9 = .slice sF.a sF.n sF.c ∧ sF.n ≤ 5 ∧ OwnF wx b sF fl ∧ Below b w wx)
  case first =>
    go_wp2_with fail
    go_loopw [9, 10] (fun u9 u10 wr => ∃ (k : Nat) (sF : Sl) (fl : List Fld), k ≤ nF ∧ k ≤ 5 ∧ u10 = .int .i64 k ∧ u9 = .slice sF.a sF.n sF.c ∧ sF.n = k ∧ OwnF wr b sF fl ∧ Below b w wr) (fun _ u _ => 5 - (intOf u).toNat)
    case atStart => exact ⟨0, {}, [], Nat.zero_le _, Nat.zero_le _, rfl, rfl, rfl, World.ownsRow_nil _ _ _ _, Below.refl _ _⟩
    case round =>
      obtain ⟨k, sF, fl, hk, hk5, rfl, rfl, hsf, hof, hb⟩ := hrel
      have HOF := hid hof; have B := hid hb; have HSF := hid hsf
      clear hof hb hsf
      by_cases hlt : k < nF
      · by_cases hlt5 : k < 5
        · obtain ⟨bF, oF, y, hae, hy, hok, hd0, hd1, hd2, hd3⟩ := raw_get HAF.out hlt
          have hbel : Below w.heap.size w wr := by rw [HBE.out]; exact B.out
          have C1 := hid (cell_later hbel hd1); have C2 := hid (cell_later hbel hd2); have C3 := hid (cell_later hbel hd3)
          have HBW : Hid (b ≤ wr.heap.size) := by show _ ≤ _; rw [← HBE.out]; exact hbel.size
          subst hae
          clear hd0 hd1 hd2 hd3 hbel hy
          have ha0 := pick_lo y.a 5 (by omega)
          have ha1 := pick_hi y.a 5 (by omega)
          have hb0 := pick_lo y.b 12 (by omega)
          have hb1 := pick_hi y.b 12 (by omega)
          have HM3 : Hid (IntKind.i64.wrap (y.c.tmod 3) = y.c.tmod 3) := IntWalk.i64_in _ (by have := tmod_in y.c 3 (by decide); omega)
          have HM2 : Hid (IntKind.i64.wrap (y.c.tmod 2) = y.c.tmod 2) := IntWalk.i64_in _ (by have := tmod_in y.c 2 (by decide); omega)
          go_upto_region 5 with (fail)
          refine wp_region_eachA 31 #[true, true, true, true, true, true, true, true, true, true, true, true, true, true, true, true, true, true, true, true, true, true, true, true, true, true, true, true, true, true, true, false] [.eq (.slice (some ⟨bF, oF, none⟩) nF cF), .eq (.int .i64 (k : Int)), .eq (.pointer (some ⟨bF, oF + k * 4, none⟩)), .eq (.pointer (some ⟨bF, oF + k * 4 + 1, none⟩)), .eq (.int .i64 y.a), .eq (.int .i64 (pick y.a 5)), .eq (.int .i64 (1 + pick y.a 5)), .eq (.slice (some ⟨bF, oF, none⟩) nF cF), .eq (.int .i64 (k : Int)), .eq (.pointer (some ⟨bF, oF + k * 4, none⟩)), .eq (.pointer (some ⟨bF, oF + k * 4 + 2, none⟩)), .eq (.int .i64 y.b), .eq (.int .i64 (pick y.b 12)), .eq (.int .i64 (pick y.b 12 / 6)), .eq (.int .i64 (1 + pick y.b 12 / 6)), .eq (.slice (some ⟨bF, oF, none⟩) nF cF), .eq (.int .i64 (k : Int)), .eq (.pointer (some ⟨bF, oF + k * 4, none⟩)), .eq (.pointer (some ⟨bF, oF + k * 4 + 3, none⟩)), .eq (.int .i64 y.c), .eq (.int .i64 (y.c.tmod 3)), .eq (.bool (y.c.tmod 3 == 0)), .eq (.slice (some ⟨bF, oF, none⟩) nF cF), .eq (.int .i64 (k : Int)), .eq (.pointer (some ⟨bF, oF + k * 4, none⟩)), .eq (.pointer (some ⟨bF, oF + k * 4 + 3, none⟩)), .eq (.int .i64 y.c), .eq (.int .i64 (y.c.tmod 2)), .eq (.bool (y.c.tmod 2 == 0)), .eq (.agg (pfld y).arr), stNewFB wr.heap.size] (by kernel_rfl) (by kernel_rfl) (by kernel_rfl) (by kernel_rfl) (by kernel_rfl) ?_ ?_
          · as_aux_lemma =>
              refine each_c (o' := _) ?_ (each_c (o' := _) ?_ (each_c (o' := _) ?_ (each_c (o' := _) ?_ (each_c (o' := _) ?_ (each_c (o' := _) ?_ (each_c (o' := _) ?_ (each_c (o' := _) ?_ (each_c (o' := _) ?_ (each_c (o' := _) ?_ (each_c (o' := _) ?_ (each_c (o' := _) ?_ (each_c (o' := _) ?_ (each_c (o' := _) ?_ (each_c (o' := _) ?_ (each_c (o' := _) ?_ (each_c (o' := _) ?_ (each_c (o' := _) ?_ (each_c (o' := _) ?_ (each_c (o' := _) ?_ (each_c (o' := _) ?_ (each_c (o' := _) ?_ (each_c (o' := _) ?_ (each_c (o' := _) ?_ (each_c (o' := _) ?_ (each_c (o' := _) ?_ (each_c (o' := _) ?_ (each_c (o' := _) ?_ (each_c (o' := _) ?_ (each_c (o' := _) ?_ (each_c (o' := _) ?_ (each_n)))))))))))))))))))))))))))))))
              -- 0: move t1
              · intro w1 hg Ar seen
                have s1 := seen.slot 1 (v := .slice (some ⟨bF, oF, none⟩) nF cF) (by kernel_rfl) rfl
                refine does_plain rfl fun K Q' hK => ?_
                go_simp; exact hK _ _ (Grow.refl _) rfl
              -- 1: move t10
              · intro w1 hg Ar seen
                have s10 := seen.slot 10 (v := .int .i64 (k : Int)) (by kernel_rfl) rfl
                refine does_plain rfl fun K Q' hK => ?_
                go_simp; exact hK _ _ (Grow.refl _) rfl
              -- 2: indexAddr 22 t30 t31
              · intro w1 hg Ar seen
                obtain ⟨v0, e0, h0⟩ := seen.dep 0 (d := 30) (by kernel_rfl) (by kernel_rfl) rfl
                rcases h0 with rfl
                obtain ⟨v1, e1, h1⟩ := seen.dep 1 (d := 31) (by kernel_rfl) (by kernel_rfl) rfl
                rcases h1 with rfl
                refine does_plain rfl fun K Q' hK => ?_
                go_simp; exact hK _ _ (Grow.refl _) rfl
              -- 3: fieldAddr 26 t32 1
              · intro w1 hg Ar seen
                obtain ⟨v2, e2, h2⟩ := seen.dep 2 (d := 32) (by kernel_rfl) (by kernel_rfl) rfl
                rcases h2 with rfl
                refine does_plain rfl fun K Q' hK => ?_
                go_simp; exact hK _ _ (Grow.refl _) rfl
              -- 4: load 3 t33
              · intro w1 hg Ar seen
                obtain ⟨v3, e3, h3⟩ := seen.dep 3 (d := 33) (by kernel_rfl) (by kernel_rfl) rfl
                rcases h3 with rfl
                refine does_plain rfl fun K Q' hK => ?_
                have hc := cell_later hg C1.out
                go_simp; exact hK _ _ (Grow.refl _) rfl
              -- 5: call fn7<locksmithhand.Pick> [t34, 5:i64] T[3, 3]
              · intro w1 hg Ar seen
                obtain ⟨v4, e4, h4⟩ := seen.dep 4 (d := 34) (by kernel_rfl) (by kernel_rfl) rfl
                rcases h4 with rfl
                refine does_plain rfl fun K Q' hK => ?_
                go_simp
                refine (pick_any y.a 5 _ (by omega) (by omega)).mono ?_
                rintro e u ⟨rfl, rfl⟩
                exact hK _ _ (Grow.refl _) rfl
              -- 6: binOp BinOp.add 3 1:i64 t35 3
              · intro w1 hg Ar seen
                obtain ⟨v5, e5, h5⟩ := seen.dep 5 (d := 35) (by kernel_rfl) (by kernel_rfl) rfl
                rcases h5 with rfl
                refine does_plain rfl fun K Q' hK => ?_
                have hs := IntWalk.i64_in (1 + pick y.a 5) (by omega)
                go_simp; exact hK _ _ (Grow.refl _) rfl
              -- 7: move t1
              · intro w1 hg Ar seen
                have s1 := seen.slot 1 (v := .slice (some ⟨bF, oF, none⟩) nF cF) (by kernel_rfl) rfl
                refine does_plain rfl fun K Q' hK => ?_
                go_simp; exact hK _ _ (Grow.refl _) rfl
              -- 8: move t10
              · intro w1 hg Ar seen
                have s10 := seen.slot 10 (v := .int .i64 (k : Int)) (by kernel_rfl) rfl
                refine does_plain rfl fun K Q' hK => ?_
                go_simp; exact hK _ _ (Grow.refl _) rfl
              -- 9: indexAddr 22 t37 t38
              · intro w1 hg Ar seen
                obtain ⟨v7, e7, h7⟩ := seen.dep 7 (d := 37) (by kernel_rfl) (by kernel_rfl) rfl
                rcases h7 with rfl
                obtain ⟨v8, e8, h8⟩ := seen.dep 8 (d := 38) (by kernel_rfl) (by kernel_rfl) rfl
                rcases h8 with rfl
                refine does_plain rfl fun K Q' hK => ?_
                go_simp; exact hK _ _ (Grow.refl _) rfl
              -- 10: fieldAddr 26 t39 2
              · intro w1 hg Ar seen
                obtain ⟨v9, e9, h9⟩ := seen.dep 9 (d := 39) (by kernel_rfl) (by kernel_rfl) rfl
                rcases h9 with rfl
                refine does_plain rfl fun K Q' hK => ?_
                go_simp; exact hK _ _ (Grow.refl _) rfl
              -- 11: load 3 t40
              · intro w1 hg Ar seen
                obtain ⟨v10, e10, h10⟩ := seen.dep 10 (d := 40) (by kernel_rfl) (by kernel_rfl) rfl
                rcases h10 with rfl
                refine does_plain rfl fun K Q' hK => ?_
                have hc := cell_later hg C2.out
                go_simp; exact hK _ _ (Grow.refl _) rfl
              -- 12: call fn7<locksmithhand.Pick> [t41, 12:i64] T[3, 3]
              · intro w1 hg Ar seen
                obtain ⟨v11, e11, h11⟩ := seen.dep 11 (d := 41) (by kernel_rfl) (by kernel_rfl) rfl
                rcases h11 with rfl
                refine does_plain rfl fun K Q' hK => ?_
                go_simp
                refine (pick_any y.b 12 _ (by omega) (by omega)).mono ?_
                rintro e u ⟨rfl, rfl⟩
                exact hK _ _ (Grow.refl _) rfl
              -- 13: binOp BinOp.quo 3 t42 6:i64 3
              · intro w1 hg Ar seen
                obtain ⟨v12, e12, h12⟩ := seen.dep 12 (d := 42) (by kernel_rfl) (by kernel_rfl) rfl
                rcases h12 with rfl
                refine does_plain rfl fun K Q' hK => ?_
                have hq : IntKind.i64.wrap ((pick y.b 12).tdiv 6) = pick y.b 12 / 6 := by rw [Int.tdiv_eq_ediv_of_nonneg hb0]; exact IntWalk.i64_in _ (by omega)
                go_simp; exact hK _ _ (Grow.refl _) rfl
              -- 14: binOp BinOp.add 3 1:i64 t43 3
              · intro w1 hg Ar seen
                obtain ⟨v13, e13, h13⟩ := seen.dep 13 (d := 43) (by kernel_rfl) (by kernel_rfl) rfl
                rcases h13 with rfl
                refine does_plain rfl fun K Q' hK => ?_
                have hs := IntWalk.i64_in (1 + pick y.b 12 / 6) (by omega)
                go_simp; exact hK _ _ (Grow.refl _) rfl
              -- 15: move t1
              · intro w1 hg Ar seen
                have s1 := seen.slot 1 (v := .slice (some ⟨bF, oF, none⟩) nF cF) (by kernel_rfl) rfl
                refine does_plain rfl fun K Q' hK => ?_
                go_simp; exact hK _ _ (Grow.refl _) rfl
              -- 16: move t10
              · intro w1 hg Ar seen
                have s10 := seen.slot 10 (v := .int .i64 (k : Int)) (by kernel_rfl) rfl
                refine does_plain rfl fun K Q' hK => ?_
                go_simp; exact hK _ _ (Grow.refl _) rfl
              -- 17: indexAddr 22 t45 t46
              · intro w1 hg Ar seen
                obtain ⟨v15, e15, h15⟩ := seen.dep 15 (d := 45) (by kernel_rfl) (by kernel_rfl) rfl
                rcases h15 with rfl
                obtain ⟨v16, e16, h16⟩ := seen.dep 16 (d := 46) (by kernel_rfl) (by kernel_rfl) rfl
                rcases h16 with rfl
                refine does_plain rfl fun K Q' hK => ?_
                go_simp; exact hK _ _ (Grow.refl _) rfl
              -- 18: fieldAddr 26 t47 3
              · intro w1 hg Ar seen
                obtain ⟨v17, e17, h17⟩ := seen.dep 17 (d := 47) (by kernel_rfl) (by kernel_rfl) rfl
                rcases h17 with rfl
                refine does_plain rfl fun K Q' hK => ?_
                go_simp; exact hK _ _ (Grow.refl _) rfl
              -- 19: load 3 t48
              · intro w1 hg Ar seen
                obtain ⟨v18, e18, h18⟩ := seen.dep 18 (d := 48) (by kernel_rfl) (by kernel_rfl) rfl
                rcases h18 with rfl
                refine does_plain rfl fun K Q' hK => ?_
                have hc := cell_later hg C3.out
                go_simp; exact hK _ _ (Grow.refl _) rfl
              -- 20: binOp BinOp.rem 3 t49 3:i64 3
              · intro w1 hg Ar seen
                obtain ⟨v19, e19, h19⟩ := seen.dep 19 (d := 49) (by kernel_rfl) (by kernel_rfl) rfl
                rcases h19 with rfl
                refine does_plain rfl fun K Q' hK => ?_
                have hs := HM3.out
                go_simp; exact hK _ _ (Grow.refl _) rfl
              -- 21: binOp BinOp.eql 3 t50 0:i64 3
              · intro w1 hg Ar seen
                obtain ⟨v20, e20, h20⟩ := seen.dep 20 (d := 50) (by kernel_rfl) (by kernel_rfl) rfl
                rcases h20 with rfl
                refine does_plain rfl fun K Q' hK => ?_
                go_simp; exact hK _ _ (Grow.refl _) rfl
              -- 22: move t1
              · intro w1 hg Ar seen
                have s1 := seen.slot 1 (v := .slice (some ⟨bF, oF, none⟩) nF cF) (by kernel_rfl) rfl
                refine does_plain rfl fun K Q' hK => ?_
                go_simp; exact hK _ _ (Grow.refl _) rfl
              -- 23: move t10
              · intro w1 hg Ar seen
                have s10 := seen.slot 10 (v := .int .i64 (k : Int)) (by kernel_rfl) rfl
                refine does_plain rfl fun K Q' hK => ?_
                go_simp; exact hK _ _ (Grow.refl _) rfl
              -- 24: indexAddr 22 t52 t53
              · intro w1 hg Ar seen
                obtain ⟨v22, e22, h22⟩ := seen.dep 22 (d := 52) (by kernel_rfl) (by kernel_rfl) rfl
                rcases h22 with rfl
                obtain ⟨v23, e23, h23⟩ := seen.dep 23 (d := 53) (by kernel_rfl) (by kernel_rfl) rfl
                rcases h23 with rfl
                refine does_plain rfl fun K Q' hK => ?_
                go_simp; exact hK _ _ (Grow.refl _) rfl
              -- 25: fieldAddr 26 t54 3
              · intro w1 hg Ar seen
                obtain ⟨v24, e24, h24⟩ := seen.dep 24 (d := 54) (by kernel_rfl) (by kernel_rfl) rfl
                rcases h24 with rfl
                refine does_plain rfl fun K Q' hK => ?_
                go_simp; exact hK _ _ (Grow.refl _) rfl
              -- 26: load 3 t55
              · intro w1 hg Ar seen
                obtain ⟨v25, e25, h25⟩ := seen.dep 25 (d := 55) (by kernel_rfl) (by kernel_rfl) rfl
                rcases h25 with rfl
                refine does_plain rfl fun K Q' hK => ?_
                have hc := cell_later hg C3.out
                go_simp; exact hK _ _ (Grow.refl _) rfl
              -- 27: binOp BinOp.rem 3 t56 2:i64 3
              · intro w1 hg Ar seen
                obtain ⟨v26, e26, h26⟩ := seen.dep 26 (d := 56) (by kernel_rfl) (by kernel_rfl) rfl
                rcases h26 with rfl
                refine does_plain rfl fun K Q' hK => ?_
                have hs := HM2.out
                go_simp; exact hK _ _ (Grow.refl _) rfl
              -- 28: binOp BinOp.eql 3 t57 0:i64 3
              · intro w1 hg Ar seen
                obtain ⟨v27, e27, h27⟩ := seen.dep 27 (d := 57) (by kernel_rfl) (by kernel_rfl) rfl
                rcases h27 with rfl
                refine does_plain rfl fun K Q' hK => ?_
                go_simp; exact hK _ _ (Grow.refl _) rfl
              -- 29: build 28 [(0, t36), (1, t44), (2, t51), (3, t58)]
              · intro w1 hg Ar seen
                obtain ⟨v6, e6, h6⟩ := seen.dep 6 (d := 36) (by kernel_rfl) (by kernel_rfl) rfl
                rcases h6 with rfl
                obtain ⟨v14, e14, h14⟩ := seen.dep 14 (d := 44) (by kernel_rfl) (by kernel_rfl) rfl
                rcases h14 with rfl
                obtain ⟨v21, e21, h21⟩ := seen.dep 21 (d := 51) (by kernel_rfl) (by kernel_rfl) rfl
                rcases h21 with rfl
                obtain ⟨v28, e28, h28⟩ := seen.dep 28 (d := 58) (by kernel_rfl) (by kernel_rfl) rfl
                rcases h28 with rfl
                refine does_plain rfl fun K Q' hK => ?_
                go_simp; exact hK _ _ (Grow.refl _) rfl
              -- 30: alloc 28
              · intro w1 hg Ar seen
                refine does_plain rfl fun K Q' hK => ?_
                refine wp_alloc_obj 28 rfl _ fZero ?_
                exact hK _ _ ((Below.refl _ _).alloc (Nat.le_refl _) _) ⟨_, rfl, block_new _ _, hg.size⟩
          intro w1 hg
          refine upon_w' (js := [0, 1, 2, 3, 4, 5, 6, 7, 8, 9, 10, 11, 12, 13, 14, 15, 16, 17, 18, 19, 20, 21, 22, 23, 24, 25, 26, 27, 28, 29, 30]) (by rfl) ?_
          refine upon_c (x := some 30) (by kernel_rfl) rfl fun v0 h0 => ?_
          rcases h0 with rfl
          refine upon_c (x := some 31) (by kernel_rfl) rfl fun v1 h1 => ?_
          rcases h1 with rfl
          refine upon_c (x := some 32) (by kernel_rfl) rfl fun v2 h2 => ?_
          rcases h2 with rfl
          refine upon_c (x := some 33) (by kernel_rfl) rfl fun v3 h3 => ?_
          rcases h3 with rfl
          refine upon_c (x := some 34) (by kernel_rfl) rfl fun v4 h4 => ?_
          rcases h4 with rfl
          refine upon_c (x := some 35) (by kernel_rfl) rfl fun v5 h5 => ?_
          rcases h5 with rfl
          refine upon_c (x := some 36) (by kernel_rfl) rfl fun v6 h6 => ?_
          rcases h6 with rfl
          refine upon_c (x := some 37) (by kernel_rfl) rfl fun v7 h7 => ?_
          rcases h7 with rfl
          refine upon_c (x := some 38) (by kernel_rfl) rfl fun v8 h8 => ?_
          rcases h8 with rfl
          refine upon_c (x := some 39) (by kernel_rfl) rfl fun v9 h9 => ?_
          rcases h9 with rfl
          refine upon_c (x := some 40) (by kernel_rfl) rfl fun v10 h10 => ?_
          rcases h10 with rfl
          refine upon_c (x := some 41) (by kernel_rfl) rfl fun v11 h11 => ?_
          rcases h11 with rfl
          refine upon_c (x := some 42) (by kernel_rfl) rfl fun v12 h12 => ?_
          rcases h12 with rfl
          refine upon_c (x := some 43) (by kernel_rfl) rfl fun v13 h13 => ?_
          rcases h13 with rfl
          refine upon_c (x := some 44) (by kernel_rfl) rfl fun v14 h14 => ?_
          rcases h14 with rfl
          refine upon_c (x := some 45) (by kernel_rfl) rfl fun v15 h15 => ?_
          rcases h15 with rfl
          refine upon_c (x := some 46) (by kernel_rfl) rfl fun v16 h16 => ?_
          rcases h16 with rfl
          refine upon_c (x := some 47) (by kernel_rfl) rfl fun v17 h17 => ?_
          rcases h17 with rfl
          refine upon_c (x := some 48) (by kernel_rfl) rfl fun v18 h18 => ?_
          rcases h18 with rfl
          refine upon_c (x := some 49) (by kernel_rfl) rfl fun v19 h19 => ?_
          rcases h19 with rfl
          refine upon_c (x := some 50) (by kernel_rfl) rfl fun v20 h20 => ?_
          rcases h20 with rfl
          refine upon_c (x := some 51) (by kernel_rfl) rfl fun v21 h21 => ?_
          rcases h21 with rfl
          refine upon_c (x := some 52) (by kernel_rfl) rfl fun v22 h22 => ?_
          rcases h22 with rfl
          refine upon_c (x := some 53) (by kernel_rfl) rfl fun v23 h23 => ?_
          rcases h23 with rfl
          refine upon_c (x := some 54) (by kernel_rfl) rfl fun v24 h24 => ?_
          rcases h24 with rfl
          refine upon_c (x := some 55) (by kernel_rfl) rfl fun v25 h25 => ?_
          rcases h25 with rfl
          refine upon_c (x := some 56) (by kernel_rfl) rfl fun v26 h26 => ?_
          rcases h26 with rfl
          refine upon_c (x := some 57) (by kernel_rfl) rfl fun v27 h27 => ?_
          rcases h27 with rfl
          refine upon_c (x := some 58) (by kernel_rfl) rfl fun v28 h28 => ?_
          rcases h28 with rfl
          refine upon_c (x := some 59) (by kernel_rfl) rfl fun v29 h29 => ?_
          rcases h29 with rfl
          refine upon_c (x := some 11) (by kernel_rfl) rfl fun v30 h30 => ?_
          refine upon_n ?_
          go_simp
          obtain ⟨p, rfl, hp, hpb⟩ := h30
          have HP := hid hp
          have HOF1 := hid (HOF.out.below hg); have B1 := hid (B.out.trans (hg.mono HBW.out)); have HBW1 := hid (Nat.le_trans HBW.out hg.size)
          have HLOW : Hid (∀ q, sF.v.ownBlock = some q → q < p) := fun q hq => by have := (HOF.out.lt q hq).2; omega
          have HBP : Hid (b ≤ p) := Nat.le_trans HBW.out hpb
          clear hp hg HOF B HBW C1 C2 C3 ha0 ha1 hb0 hb1 HM2 HM3 hpb
          refine wpAny_ready (rs := [31]) (by kernel_rfl) (by simp) ?_
          refine AllReady.cons rfl (fun K hK => ?_) AllReady.nil
          rw [if_pos (by rfl)]
          refine wp_store_obj 28 _ _ rfl p rfl _ rfl _ _ HP.out rfl fSize (farr_one _) ?_
          intro w2 hp2 hc2 hs2
          refine hK _ _ ?_
          clear hK K
          refine wpAny_done (by kernel_rfl) ?_ _
          have HP2 := hid hp2
          have FIN : Hid (∀ W, Chg [p] w1 W → OwnF W b sF fl ∧ Below b w W ∧ b ≤ W.heap.size) := fun W hc =>
            ⟨hc.owns HOF1.out (fun q hq hm => by have := HLOW.out q hq; have := List.mem_singleton.1 hm; omega), B1.out.trans (hc.below (fun q hq => by rw [List.mem_singleton.1 hq]; exact HBP.out) HBW1.out), Nat.le_trans HBW1.out hc.size⟩
          have HC2 := hid hc2
          clear hp2 hc2 hs2 HP HOF1 B1 HBW1 HLOW HBP
          go_upto_if 60 with (fail)
          go_cut [] (fun wx => ∃ fd : Fld, wx.heap[p]? = some (.cells fd.arr 28 (0, 0)) ∧ OwnF wx b sF fl ∧ Below b w wx ∧ b ≤ wx.heap.size)
          case first =>
            cases sorted
            · go_wp2_with fail
              go_meet
              exact ⟨pfld y, HP2.out, FIN.out _ HC2.out⟩
            · have hc0 := cell_of_block (j := 0) HP2.out rfl
              have hc1 := cell_of_block (j := 1) HP2.out rfl
              have hz0 := frozen_of_block (j := 0) HP2.out
              have hz1 := frozen_of_block (j := 1) HP2.out
              go_wp2_with fail
              go_meet
              exact ⟨{ pfld y with tag := (k : Int) + 1, typ := 1 }, block_setCell (block_setCell HP2.out _) _, FIN.out _ (Chg.trans1' _ _ _ HC2.out (((Chg.refl [p] w2).setCell (.inl (by simp)) _).setCell (.inl (by simp)) _))⟩
          case rest =>
            obtain ⟨fd, hp, hof, hb, hbw⟩ := hcut
            have HP := hid hp; have HOF := hid hof; have B := hid hb; have HBW := hid hbw
            clear hp hof hb hbw HP2 FIN HC2
            go_wp2_with (first | (refine wpList_load_row rfl 28 _ rfl p rfl _ _ _ _ HP.out Try.underlying28 rfl fSize ?_) | (refine wpList_build_fld rfl 23 28 _ rfl fd rfl i1 Try.underlying23 hi1 hy0 hy1 ?_) | (at_builtin; go_must (refine wpList_append_c rfl _ _ 23 rfl b 28 i1 _ 4 24 Try.underlying23 hi1 hy0 hy1 hy2 rfl (by decide) (.slice sF.a sF.n sF.c) sF.n _ rfl (HOF.out.below ((Below.refl _ _).alloc (Nat.le_refl _) (.cells fd.arr 28))) _ 1 _ fd.arr.toList rfl (RdC.new _ _ _ _ _ rfl 4 rfl _ rfl) (by have := fld_one [fd]; simpa [fldCells] using this) (fun hx => by cases hx) (by unfold maxLen; have := HSF.out; omega) (by have := HSF.out; omega) (by have := HBW.out; simp; omega) ?_); go_loud (intro a' c' w7 hown hgw hfr; have HO7 := hid hown; have HG7 := hid hgw; clear hown hgw hfr)))
            have hch : Chg sF.v.ownBlock.toList wc w7 := ((Chg.refl _ wc).alloc _).grown HG7.out (fun k hk => .inl (by rw [hk]; simp))
            have hin2 : ∀ q, q ∈ sF.v.ownBlock.toList → sF.v.ownBlock = some q := fun q hm => by
              cases hv : sF.v.ownBlock with
              | none => rw [hv] at hm; cases hm
              | some y => rw [hv] at hm; simp at hm; rw [hm]
            have hof : OwnF w7 b ⟨a', sF.n + 1, c'⟩ (fl ++ [fd]) := by
              unfold OwnF; rw [fld_app]; simpa [fldCells] using HO7.out
            have hb7 : Below b w w7 := B.out.trans (hch.below (fun q hq => (HOF.out.lt q (hin2 q hq)).1) HBW.out)
            have H7 := hid (And.intro hof hb7)
            clear hch hin2 hof hb7 HO7 HG7
            go_roundw
            case rel =>
              have hsf := HSF.out
              first
                | exact ⟨k + 1, ⟨a', sF.n + 1, c'⟩, fl ++ [fd], by omega, by omega, by go_num, rfl, by simp only; omega, H7.out⟩
                | ((repeat apply Exists.intro); exact ⟨⟨k + 1, ⟨a', sF.n + 1, c'⟩, fl ++ [fd], by omega, by omega, by go_num, rfl, by simp only; omega, H7.out⟩, rfl⟩)
            case measure => simp [intOf]; omega
        · obtain rfl : k = 5 := by omega
          go_wp2_with fail
          go_meet
          exact ⟨sF, fl, rfl, by have := HSF.out; omega, HOF.out, B.out⟩
      · obtain rfl : k = nF := by omega
        go_wp2_with fail
        go_meet
        exact ⟨sF, fl, rfl, by have := HSF.out; omega, HOF.out, B.out⟩
  case rest =>
    obtain ⟨sF, fl, rfl, hs5, hof, hb⟩ := hcut
    have HOF := hid hof; have B := hid hb
    clear hof hb HAF
    go_wp2_with fail
    refine (kids_any lk aK nK cK _ (raws_below HAK.out (by rw [HBE.out]; exact B.out))).mono ?_
    rintro e w2 ⟨so, rfl, how, hb2⟩
    have hso : so.n ≤ 8 := by rw [← how.len, List.length_map, List.length_take]; omega
    have hbz : b ≤ wc.heap.size := by rw [← HBE.out]; exact (show Below w.heap.size w wc by rw [HBE.out]; exact B.out).size
    have hfl : ∀ x ∈ (lk.take 8).map kidV, Flat x := fun x hx => by obtain ⟨y, _, rfl⟩ := List.mem_map.1 hx; exact kidV_flat y
    have HFL := hid hfl; have HBZ := hid hbz; have HZX := hid hb2.size; have HOW := hid how.own
    have B2 := hid (B.out.trans (hb2.mono hbz)); have HOF2 := hid (HOF.out.below hb2)
    clear how hb2 hfl hbz B HOF
    generalize wc.heap.size = z at *
    generalize (lk.take 8).map kidV = l0 at *
    go_upto_if 72 with (first | (refine wpList_alloc_obj rfl 33 rfl _ iZero ?_) | (refine wpList_store_obj rfl 33 _ _ rfl w2.heap.size rfl _ rfl _ _ (block_new w2 _) rfl iSize (arr_one { tag := 9, typ := 1, ks := so }) ?_; intro w3 hb3 hc3 hs3; have HB3 := hid hb3; have HC3 := hid hc3; clear hb3 hc3 hs3))
    have hbel : Below w2.heap.size w2 w3 := ((Below.refl _ w2).alloc (Nat.le_refl _) _).trans (HC3.out.below (fun k hk => by rw [List.mem_singleton.1 hk]; exact Nat.le_refl _) (by simp))
    have M : Hid (PPs w b z w2.heap.size so 1 sF fl l0 w3) := ⟨B2.out.trans (hbel.mono (Nat.le_trans HBZ.out HZX.out)), (Chg.of_below hbel []).owns HOW.out (fun k _ hm => by cases hm), HFL.out, HB3.out, HOF2.out.below hbel, HBZ.out, HZX.out, fun q hq => (HOW.out.lt q hq).2⟩
    clear hbel HB3 HC3 B2 HOF2 HOW HFL HBZ HZX
    generalize w2.heap.size = px at *
    obtain ⟨sa, n, c⟩ := so
    simp only at hso
    go_cut [] (fun wx => ∃ l, PPs w b z px ⟨sa, n, c⟩ 1 sF fl l wx)
    case first =>
      cases sorted
      · go_wp2_with fail
        go_meet
        exact ⟨_, M.out⟩
      · go_wp2_with fail
        go_loopw [13] (fun u wr => ∃ (k : Nat) (l : List ItV), 1 ≤ k ∧ k ≤ 9 ∧ u = .int .i64 k ∧ PPs w b z px ⟨sa, n, c⟩ 1 sF fl l wr) (fun u _ => n - (intOf u).toNat)
        case atStart => exact ⟨1, l0, Nat.le_refl _, by decide, rfl, M.out⟩
        case round =>
          clear M
          obtain ⟨k, l, hk1, hk9, rfl, hm⟩ := hrel
          have M := hid hm
          clear hm
          have hc4 : wr.cell? ⟨px, 4, none⟩ = some (.slice sa n c) := cell_of_block (j := 4) M.out.xb rfl
          by_cases hlt : k < n
          · obtain ⟨g, hga, -, -⟩ := (own_slice M.out.own).2.2 (by simp only; omega)
            simp only at hga
            subst hga
            go_upto_block 4 with (fail)
            refine wp_last' (fun K2 hK2 => ?_)
            go_cut [14] (fun _ wx => ∃ l, PPs w b z px ⟨some ⟨g, 0, none⟩, n, c⟩ 1 sF fl l wx)
            case first =>
              clear hc4
              go_wp2_with fail
              go_loopw [14] (fun u wr => ∃ (j : Nat) (l : List ItV), j < n ∧ u = .int .i64 j ∧ PPs w b z px ⟨some ⟨g, 0, none⟩, n, c⟩ 1 sF fl l wr) (fun u _ => (intOf u).toNat)
              case atStart => exact ⟨k, l, hlt, rfl, M.out⟩
              case round =>
                clear M
                obtain ⟨j, l, hj, rfl, hm⟩ := hrel
                have M := hid hm
                clear hm
                cases j with
                | zero =>
                  go_upto_region 16 with (fail)
                  refine wp_region_each 18 [.eq (.int .i64 0), .eq (.bool false), .eq (.bool false), .eq undef, .eq undef, .eq undef, .eq undef, .eq undef, .eq undef, .eq undef, .eq undef, .eq undef, .eq undef, .eq undef, .eq undef, .eq undef, .eq undef, .eq (.bool false)] (by kernel_rfl) (by kernel_rfl) (by kernel_rfl) (by kernel_rfl) ?_ ?_
                  · as_aux_lemma =>
                      refine each_c (o' := _) ?_ (each_c (o' := _) ?_ (each_c (o' := _) ?_ (each_c (o' := _) ?_ (each_c (o' := _) ?_ (each_c (o' := _) ?_ (each_c (o' := _) ?_ (each_c (o' := _) ?_ (each_c (o' := _) ?_ (each_c (o' := _) ?_ (each_c (o' := _) ?_ (each_c (o' := _) ?_ (each_c (o' := _) ?_ (each_c (o' := _) ?_ (each_c (o' := _) ?_ (each_c (o' := _) ?_ (each_c (o' := _) ?_ (each_c (o' := _) ?_ (each_n))))))))))))))))))
                      -- 0: move t14
                      · intro w1 hg Ar seen
                        have s14 := seen.slot 14 (v := .int .i64 0) (by kernel_rfl) rfl
                        refine does_plain rfl fun K Q' hK => ?_
                        go_simp; exact hK _ _ (Grow.refl _) rfl
                      -- 1: binOp BinOp.gtr 3 t81 0:i64 3
                      · intro w1 hg Ar seen
                        obtain ⟨v0, e0, h0⟩ := seen.dep 0 (d := 81) (by kernel_rfl) (by kernel_rfl) rfl
                        rcases h0 with rfl
                        refine does_plain rfl fun K Q' hK => ?_
                        go_simp; exact hK _ _ (Grow.refl _) rfl
                      -- 2: move t82
                      · intro w1 hg Ar seen
                        obtain ⟨v1, e1, h1⟩ := seen.dep 1 (d := 82) (by kernel_rfl) (by kernel_rfl) rfl
                        rcases h1 with rfl
                        refine does_plain rfl fun K Q' hK => ?_
                        go_simp; exact hK _ _ (Grow.refl _) rfl
                      -- 3: fieldAddr 33 t12 4
                      · intro w1 hg Ar seen
                        obtain ⟨v2, e2, h2⟩ := seen.dep 2 (d := 83) (by kernel_rfl) (by kernel_rfl) rfl
                        rcases h2 with rfl
                        exact does_off rfl (by kernel_rfl) e2 ne_ft (Grow.refl _) rfl
                      -- 4: load 29 t84
                      · intro w1 hg Ar seen
                        obtain ⟨v2, e2, h2⟩ := seen.dep 2 (d := 83) (by kernel_rfl) (by kernel_rfl) rfl
                        rcases h2 with rfl
                        exact does_off rfl (by kernel_rfl) e2 ne_ft (Grow.refl _) rfl
                      -- 5: move t14
                      · intro w1 hg Ar seen
                        obtain ⟨v2, e2, h2⟩ := seen.dep 2 (d := 83) (by kernel_rfl) (by kernel_rfl) rfl
                        rcases h2 with rfl
                        exact does_off rfl (by kernel_rfl) e2 ne_ft (Grow.refl _) rfl
                      -- 6: indexAddr 29 t85 t86
                      · intro w1 hg Ar seen
                        obtain ⟨v2, e2, h2⟩ := seen.dep 2 (d := 83) (by kernel_rfl) (by kernel_rfl) rfl
                        rcases h2 with rfl
                        exact does_off rfl (by kernel_rfl) e2 ne_ft (Grow.refl _) rfl
                      -- 7: fieldAddr 33 t87 0
                      · intro w1 hg Ar seen
                        obtain ⟨v2, e2, h2⟩ := seen.dep 2 (d := 83) (by kernel_rfl) (by kernel_rfl) rfl
                        rcases h2 with rfl
                        exact does_off rfl (by kernel_rfl) e2 ne_ft (Grow.refl _) rfl
                      -- 8: load 3 t88
                      · intro w1 hg Ar seen
                        obtain ⟨v2, e2, h2⟩ := seen.dep 2 (d := 83) (by kernel_rfl) (by kernel_rfl) rfl
                        rcases h2 with rfl
                        exact does_off rfl (by kernel_rfl) e2 ne_ft (Grow.refl _) rfl
                      -- 9: fieldAddr 33 t12 4
                      · intro w1 hg Ar seen
                        obtain ⟨v2, e2, h2⟩ := seen.dep 2 (d := 83) (by kernel_rfl) (by kernel_rfl) rfl
                        rcases h2 with rfl
                        exact does_off rfl (by kernel_rfl) e2 ne_ft (Grow.refl _) rfl
                      -- 10: load 29 t90
                      · intro w1 hg Ar seen
                        obtain ⟨v2, e2, h2⟩ := seen.dep 2 (d := 83) (by kernel_rfl) (by kernel_rfl) rfl
                        rcases h2 with rfl
                        exact does_off rfl (by kernel_rfl) e2 ne_ft (Grow.refl _) rfl
                      -- 11: move t14
                      · intro w1 hg Ar seen
                        obtain ⟨v2, e2, h2⟩ := seen.dep 2 (d := 83) (by kernel_rfl) (by kernel_rfl) rfl
                        rcases h2 with rfl
                        exact does_off rfl (by kernel_rfl) e2 ne_ft (Grow.refl _) rfl
                      -- 12: binOp BinOp.sub 3 t92 1:i64 3
                      · intro w1 hg Ar seen
                        obtain ⟨v2, e2, h2⟩ := seen.dep 2 (d := 83) (by kernel_rfl) (by kernel_rfl) rfl
                        rcases h2 with rfl
                        exact does_off rfl (by kernel_rfl) e2 ne_ft (Grow.refl _) rfl
                      -- 13: indexAddr 29 t91 t93
                      · intro w1 hg Ar seen
                        obtain ⟨v2, e2, h2⟩ := seen.dep 2 (d := 83) (by kernel_rfl) (by kernel_rfl) rfl
                        rcases h2 with rfl
                        exact does_off rfl (by kernel_rfl) e2 ne_ft (Grow.refl _) rfl
                      -- 14: fieldAddr 33 t94 0
                      · intro w1 hg Ar seen
                        obtain ⟨v2, e2, h2⟩ := seen.dep 2 (d := 83) (by kernel_rfl) (by kernel_rfl) rfl
                        rcases h2 with rfl
                        exact does_off rfl (by kernel_rfl) e2 ne_ft (Grow.refl _) rfl
                      -- 15: load 3 t95
                      · intro w1 hg Ar seen
                        obtain ⟨v2, e2, h2⟩ := seen.dep 2 (d := 83) (by kernel_rfl) (by kernel_rfl) rfl
                        rcases h2 with rfl
                        exact does_off rfl (by kernel_rfl) e2 ne_ft (Grow.refl _) rfl
                      -- 16: binOp BinOp.lss 3 t89 t96 3
                      · intro w1 hg Ar seen
                        obtain ⟨v2, e2, h2⟩ := seen.dep 2 (d := 83) (by kernel_rfl) (by kernel_rfl) rfl
                        rcases h2 with rfl
                        exact does_off rfl (by kernel_rfl) e2 ne_ft (Grow.refl _) rfl
                      -- 17: pick t83 t97 false
                      · intro w1 hg Ar seen
                        obtain ⟨v2, e2, h2⟩ := seen.dep 2 (d := 83) (by kernel_rfl) (by kernel_rfl) rfl
                        rcases h2 with rfl
                        obtain ⟨v16, e16, h16⟩ := seen.dep 16 (d := 97) (by kernel_rfl) (by kernel_rfl) rfl
                        rcases h16 with rfl
                        refine does_plain rfl fun K Q' hK => ?_
                        go_simp; exact hK _ _ (Grow.refl _) rfl
                  intro w1 hg
                  refine upon_w' (js := [0, 1, 2, 3, 4, 5, 6, 7, 8, 9, 10, 11, 12, 13, 14, 15, 16, 17]) (by rfl) ?_
                  refine upon_c (x := some 81) (by kernel_rfl) rfl fun v0 h0 => ?_
                  rcases h0 with rfl
                  refine upon_c (x := some 82) (by kernel_rfl) rfl fun v1 h1 => ?_
                  rcases h1 with rfl
                  refine upon_c (x := some 83) (by kernel_rfl) rfl fun v2 h2 => ?_
                  rcases h2 with rfl
                  refine upon_c (x := some 84) (by kernel_rfl) rfl fun v3 h3 => ?_
                  rcases h3 with rfl
                  refine upon_c (x := some 85) (by kernel_rfl) rfl fun v4 h4 => ?_
                  rcases h4 with rfl
                  refine upon_c (x := some 86) (by kernel_rfl) rfl fun v5 h5 => ?_
                  rcases h5 with rfl
                  refine upon_c (x := some 87) (by kernel_rfl) rfl fun v6 h6 => ?_
                  rcases h6 with rfl
                  refine upon_c (x := some 88) (by kernel_rfl) rfl fun v7 h7 => ?_
                  rcases h7 with rfl
                  refine upon_c (x := some 89) (by kernel_rfl) rfl fun v8 h8 => ?_
                  rcases h8 with rfl
                  refine upon_c (x := some 90) (by kernel_rfl) rfl fun v9 h9 => ?_
                  rcases h9 with rfl
                  refine upon_c (x := some 91) (by kernel_rfl) rfl fun v10 h10 => ?_
                  rcases h10 with rfl
                  refine upon_c (x := some 92) (by kernel_rfl) rfl fun v11 h11 => ?_
                  rcases h11 with rfl
                  refine upon_c (x := some 93) (by kernel_rfl) rfl fun v12 h12 => ?_
                  rcases h12 with rfl
                  refine upon_c (x := some 94) (by kernel_rfl) rfl fun v13 h13 => ?_
                  rcases h13 with rfl
                  refine upon_c (x := some 95) (by kernel_rfl) rfl fun v14 h14 => ?_
                  rcases h14 with rfl
                  refine upon_c (x := some 96) (by kernel_rfl) rfl fun v15 h15 => ?_
                  rcases h15 with rfl
                  refine upon_c (x := some 97) (by kernel_rfl) rfl fun v16 h16 => ?_
                  rcases h16 with rfl
                  refine upon_c (x := some 98) (by kernel_rfl) rfl fun v17 h17 => ?_
                  rcases h17 with rfl
                  refine upon_n ?_
                  go_simp
                  go_wp2_with fail
                  go_meet
                  exact ⟨l, M.out.below hg⟩
                | succ jp =>
                  have hll : l.length = n := by have := M.out.own.1; rw [itm_len] at this; simp only at this; omega
                  obtain ⟨y1, hy1⟩ : ∃ y, l[jp]? = some y := ⟨_, List.getElem?_eq_getElem (by omega)⟩
                  obtain ⟨y2, hy2⟩ : ∃ y, l[jp + 1]? = some y := ⟨_, List.getElem?_eq_getElem (by omega)⟩
                  have HY1 := hid hy1; have HY2 := hid hy2
                  have CK : Hid (wr.cell? ⟨px, 4, none⟩ = some (.slice (some ⟨g, 0, none⟩) n c)) := cell_of_block (j := 4) M.out.xb rfl
                  have CT1 : Hid (wr.cell? ⟨g, jp * 5, none⟩ = some (.int .i64 y1.tag)) := range_cell (itm_range M.out.own hy1 (by simp only; omega)) 0 rfl
                  have CT2 : Hid (wr.cell? ⟨g, (jp + 1) * 5, none⟩ = some (.int .i64 y2.tag)) := range_cell (itm_range M.out.own hy2 (by simp only; omega)) 0 rfl
                  have HSUB : Hid (IntKind.i64.wrap (jp : Int) = (jp : Int)) := IntWalk.i64_in _ (by omega)
                  have HJN : Hid (jp < n) := by show _ < _; omega
                  have HJ1 : Hid (jp + 1 < n) := by show _ < _; omega
                  have HJB : Hid (0 ≤ (jp : Int) + 1 ∧ (jp : Int) + 1 < (n : Int)) := by show _ ∧ _; omega
                  clear hy1 hy2 hll
                  by_cases htl : y2.tag < y1.tag
                  · go_upto_region 16 with (fail)
                    refine wp_region_each 18 [.eq (.int .i64 ((jp : Int) + 1)), .eq (.bool true), .eq (.bool true), .eq (.pointer (some ⟨px, 4, none⟩)), .eq (.slice (some ⟨g, 0, none⟩) n c), .eq (.int .i64 ((jp : Int) + 1)), .eq (.pointer (some ⟨g, (jp + 1) * 5, none⟩)), .eq (.pointer (some ⟨g, (jp + 1) * 5, none⟩)), .eq (.int .i64 y2.tag), .eq (.pointer (some ⟨px, 4, none⟩)), .eq (.slice (some ⟨g, 0, none⟩) n c), .eq (.int .i64 ((jp : Int) + 1)), .eq (.int .i64 (jp : Int)), .eq (.pointer (some ⟨g, jp * 5, none⟩)), .eq (.pointer (some ⟨g, jp * 5, none⟩)), .eq (.int .i64 y1.tag), .eq (.bool true), .eq (.bool true)] (by kernel_rfl) (by kernel_rfl) (by kernel_rfl) (by kernel_rfl) ?_ ?_
                    · as_aux_lemma =>
                        refine each_c (o' := _) ?_ (each_c (o' := _) ?_ (each_c (o' := _) ?_ (each_c (o' := _) ?_ (each_c (o' := _) ?_ (each_c (o' := _) ?_ (each_c (o' := _) ?_ (each_c (o' := _) ?_ (each_c (o' := _) ?_ (each_c (o' := _) ?_ (each_c (o' := _) ?_ (each_c (o' := _) ?_ (each_c (o' := _) ?_ (each_c (o' := _) ?_ (each_c (o' := _) ?_ (each_c (o' := _) ?_ (each_c (o' := _) ?_ (each_c (o' := _) ?_ (each_n))))))))))))))))))
                        -- 0: move t14
                        · intro w1 hg Ar seen
                          have s14 := seen.slot 14 (v := .int .i64 ((jp : Int) + 1)) (by kernel_rfl) rfl
                          refine does_plain rfl fun K Q' hK => ?_
                          go_simp; exact hK _ _ (Grow.refl _) rfl
                        -- 1: binOp BinOp.gtr 3 t81 0:i64 3
                        · intro w1 hg Ar seen
                          obtain ⟨v0, e0, h0⟩ := seen.dep 0 (d := 81) (by kernel_rfl) (by kernel_rfl) rfl
                          rcases h0 with rfl
                          refine does_plain rfl fun K Q' hK => ?_
                          go_simp; exact hK _ _ (Grow.refl _) rfl
                        -- 2: move t82
                        · intro w1 hg Ar seen
                          obtain ⟨v1, e1, h1⟩ := seen.dep 1 (d := 82) (by kernel_rfl) (by kernel_rfl) rfl
                          rcases h1 with rfl
                          refine does_plain rfl fun K Q' hK => ?_
                          go_simp; exact hK _ _ (Grow.refl _) rfl
                        -- 3: fieldAddr 33 t12 4
                        · intro w1 hg Ar seen
                          obtain ⟨v2, e2, h2⟩ := seen.dep 2 (d := 83) (by kernel_rfl) (by kernel_rfl) rfl
                          rcases h2 with rfl
                          have s12 := seen.slot 12 (v := .pointer (some ⟨px, 0, none⟩)) (by kernel_rfl) rfl
                          refine does_on rfl (by kernel_rfl) e2 fun K Q' hK => ?_
                          clear e2
                          go_simp; exact hK _ _ (Grow.refl _) rfl
                        -- 4: load 29 t84
                        · intro w1 hg Ar seen
                          obtain ⟨v3, e3, h3⟩ := seen.dep 3 (d := 84) (by kernel_rfl) (by kernel_rfl) rfl
                          rcases h3 with rfl
                          obtain ⟨v2, e2, h2⟩ := seen.dep 2 (d := 83) (by kernel_rfl) (by kernel_rfl) rfl
                          rcases h2 with rfl
                          refine does_on rfl (by kernel_rfl) e2 fun K Q' hK => ?_
                          clear e2
                          have hc := cell_later hg CK.out
                          go_simp; exact hK _ _ (Grow.refl _) rfl
                        -- 5: move t14
                        · intro w1 hg Ar seen
                          obtain ⟨v2, e2, h2⟩ := seen.dep 2 (d := 83) (by kernel_rfl) (by kernel_rfl) rfl
                          rcases h2 with rfl
                          have s14 := seen.slot 14 (v := .int .i64 ((jp : Int) + 1)) (by kernel_rfl) rfl
                          refine does_on rfl (by kernel_rfl) e2 fun K Q' hK => ?_
                          clear e2
                          go_simp; exact hK _ _ (Grow.refl _) rfl
                        -- 6: indexAddr 29 t85 t86
                        · intro w1 hg Ar seen
                          obtain ⟨v4, e4, h4⟩ := seen.dep 4 (d := 85) (by kernel_rfl) (by kernel_rfl) rfl
                          rcases h4 with rfl
                          obtain ⟨v5, e5, h5⟩ := seen.dep 5 (d := 86) (by kernel_rfl) (by kernel_rfl) rfl
                          rcases h5 with rfl
                          obtain ⟨v2, e2, h2⟩ := seen.dep 2 (d := 83) (by kernel_rfl) (by kernel_rfl) rfl
                          rcases h2 with rfl
                          refine does_on rfl (by kernel_rfl) e2 fun K Q' hK => ?_
                          clear e2
                          have hb := HJB.out
                          go_simp; exact hK _ _ (Grow.refl _) rfl
                        -- 7: fieldAddr 33 t87 0
                        · intro w1 hg Ar seen
                          obtain ⟨v6, e6, h6⟩ := seen.dep 6 (d := 87) (by kernel_rfl) (by kernel_rfl) rfl
                          rcases h6 with rfl
                          obtain ⟨v2, e2, h2⟩ := seen.dep 2 (d := 83) (by kernel_rfl) (by kernel_rfl) rfl
                          rcases h2 with rfl
                          refine does_on rfl (by kernel_rfl) e2 fun K Q' hK => ?_
                          clear e2
                          go_simp; exact hK _ _ (Grow.refl _) rfl
                        -- 8: load 3 t88
                        · intro w1 hg Ar seen
                          obtain ⟨v7, e7, h7⟩ := seen.dep 7 (d := 88) (by kernel_rfl) (by kernel_rfl) rfl
                          rcases h7 with rfl
                          obtain ⟨v2, e2, h2⟩ := seen.dep 2 (d := 83) (by kernel_rfl) (by kernel_rfl) rfl
                          rcases h2 with rfl
                          refine does_on rfl (by kernel_rfl) e2 fun K Q' hK => ?_
                          clear e2
                          have hc := cell_later hg CT2.out
                          go_simp; exact hK _ _ (Grow.refl _) rfl
                        -- 9: fieldAddr 33 t12 4
                        · intro w1 hg Ar seen
                          obtain ⟨v2, e2, h2⟩ := seen.dep 2 (d := 83) (by kernel_rfl) (by kernel_rfl) rfl
                          rcases h2 with rfl
                          have s12 := seen.slot 12 (v := .pointer (some ⟨px, 0, none⟩)) (by kernel_rfl) rfl
                          refine does_on rfl (by kernel_rfl) e2 fun K Q' hK => ?_
                          clear e2
                          go_simp; exact hK _ _ (Grow.refl _) rfl
                        -- 10: load 29 t90
                        · intro w1 hg Ar seen
                          obtain ⟨v9, e9, h9⟩ := seen.dep 9 (d := 90) (by kernel_rfl) (by kernel_rfl) rfl
                          rcases h9 with rfl
                          obtain ⟨v2, e2, h2⟩ := seen.dep 2 (d := 83) (by kernel_rfl) (by kernel_rfl) rfl
                          rcases h2 with rfl
                          refine does_on rfl (by kernel_rfl) e2 fun K Q' hK => ?_
                          clear e2
                          have hc := cell_later hg CK.out
                          go_simp; exact hK _ _ (Grow.refl _) rfl
                        -- 11: move t14
                        · intro w1 hg Ar seen
                          obtain ⟨v2, e2, h2⟩ := seen.dep 2 (d := 83) (by kernel_rfl) (by kernel_rfl) rfl
                          rcases h2 with rfl
                          have s14 := seen.slot 14 (v := .int .i64 ((jp : Int) + 1)) (by kernel_rfl) rfl
                          refine does_on rfl (by kernel_rfl) e2 fun K Q' hK => ?_
                          clear e2
                          go_simp; exact hK _ _ (Grow.refl _) rfl
                        -- 12: binOp BinOp.sub 3 t92 1:i64 3
                        · intro w1 hg Ar seen
                          obtain ⟨v11, e11, h11⟩ := seen.dep 11 (d := 92) (by kernel_rfl) (by kernel_rfl) rfl
                          rcases h11 with rfl
                          obtain ⟨v2, e2, h2⟩ := seen.dep 2 (d := 83) (by kernel_rfl) (by kernel_rfl) rfl
                          rcases h2 with rfl
                          refine does_on rfl (by kernel_rfl) e2 fun K Q' hK => ?_
                          clear e2
                          have hs := HSUB.out
                          go_simp; exact hK _ _ (Grow.refl _) rfl
                        -- 13: indexAddr 29 t91 t93
                        · intro w1 hg Ar seen
                          obtain ⟨v10, e10, h10⟩ := seen.dep 10 (d := 91) (by kernel_rfl) (by kernel_rfl) rfl
                          rcases h10 with rfl
                          obtain ⟨v12, e12, h12⟩ := seen.dep 12 (d := 93) (by kernel_rfl) (by kernel_rfl) rfl
                          rcases h12 with rfl
                          obtain ⟨v2, e2, h2⟩ := seen.dep 2 (d := 83) (by kernel_rfl) (by kernel_rfl) rfl
                          rcases h2 with rfl
                          refine does_on rfl (by kernel_rfl) e2 fun K Q' hK => ?_
                          clear e2
                          have hb := HJN.out
                          go_simp; exact hK _ _ (Grow.refl _) rfl
                        -- 14: fieldAddr 33 t94 0
                        · intro w1 hg Ar seen
                          obtain ⟨v13, e13, h13⟩ := seen.dep 13 (d := 94) (by kernel_rfl) (by kernel_rfl) rfl
                          rcases h13 with rfl
                          obtain ⟨v2, e2, h2⟩ := seen.dep 2 (d := 83) (by kernel_rfl) (by kernel_rfl) rfl
                          rcases h2 with rfl
                          refine does_on rfl (by kernel_rfl) e2 fun K Q' hK => ?_
                          clear e2
                          go_simp; exact hK _ _ (Grow.refl _) rfl
                        -- 15: load 3 t95
                        · intro w1 hg Ar seen
                          obtain ⟨v14, e14, h14⟩ := seen.dep 14 (d := 95) (by kernel_rfl) (by kernel_rfl) rfl
                          rcases h14 with rfl
                          obtain ⟨v2, e2, h2⟩ := seen.dep 2 (d := 83) (by kernel_rfl) (by kernel_rfl) rfl
                          rcases h2 with rfl
                          refine does_on rfl (by kernel_rfl) e2 fun K Q' hK => ?_
                          clear e2
                          have hc := cell_later hg CT1.out
                          go_simp; exact hK _ _ (Grow.refl _) rfl
                        -- 16: binOp BinOp.lss 3 t89 t96 3
                        · intro w1 hg Ar seen
                          obtain ⟨v8, e8, h8⟩ := seen.dep 8 (d := 89) (by kernel_rfl) (by kernel_rfl) rfl
                          rcases h8 with rfl
                          obtain ⟨v15, e15, h15⟩ := seen.dep 15 (d := 96) (by kernel_rfl) (by kernel_rfl) rfl
                          rcases h15 with rfl
                          obtain ⟨v2, e2, h2⟩ := seen.dep 2 (d := 83) (by kernel_rfl) (by kernel_rfl) rfl
                          rcases h2 with rfl
                          refine does_on rfl (by kernel_rfl) e2 fun K Q' hK => ?_
                          clear e2
                          go_simp; exact hK _ _ (Grow.refl _) rfl
                        -- 17: pick t83 t97 false
                        · intro w1 hg Ar seen
                          obtain ⟨v2, e2, h2⟩ := seen.dep 2 (d := 83) (by kernel_rfl) (by kernel_rfl) rfl
                          rcases h2 with rfl
                          obtain ⟨v16, e16, h16⟩ := seen.dep 16 (d := 97) (by kernel_rfl) (by kernel_rfl) rfl
                          rcases h16 with rfl
                          refine does_plain rfl fun K Q' hK => ?_
                          go_simp; exact hK _ _ (Grow.refl _) rfl
                    intro w1 hg
                    refine upon_w' (js := [0, 1, 2, 3, 4, 5, 6, 7, 8, 9, 10, 11, 12, 13, 14, 15, 16, 17]) (by rfl) ?_
                    refine upon_c (x := some 81) (by kernel_rfl) rfl fun v0 h0 => ?_
                    rcases h0 with rfl
                    refine upon_c (x := some 82) (by kernel_rfl) rfl fun v1 h1 => ?_
                    rcases h1 with rfl
                    refine upon_c (x := some 83) (by kernel_rfl) rfl fun v2 h2 => ?_
                    rcases h2 with rfl
                    refine upon_c (x := some 84) (by kernel_rfl) rfl fun v3 h3 => ?_
                    rcases h3 with rfl
                    refine upon_c (x := some 85) (by kernel_rfl) rfl fun v4 h4 => ?_
                    rcases h4 with rfl
                    refine upon_c (x := some 86) (by kernel_rfl) rfl fun v5 h5 => ?_
                    rcases h5 with rfl
                    refine upon_c (x := some 87) (by kernel_rfl) rfl fun v6 h6 => ?_
                    rcases h6 with rfl
                    refine upon_c (x := some 88) (by kernel_rfl) rfl fun v7 h7 => ?_
                    rcases h7 with rfl
                    refine upon_c (x := some 89) (by kernel_rfl) rfl fun v8 h8 => ?_
                    rcases h8 with rfl
                    refine upon_c (x := some 90) (by kernel_rfl) rfl fun v9 h9 => ?_
                    rcases h9 with rfl
                    refine upon_c (x := some 91) (by kernel_rfl) rfl fun v10 h10 => ?_
                    rcases h10 with rfl
                    refine upon_c (x := some 92) (by kernel_rfl) rfl fun v11 h11 => ?_
                    rcases h11 with rfl
                    refine upon_c (x := some 93) (by kernel_rfl) rfl fun v12 h12 => ?_
                    rcases h12 with rfl
                    refine upon_c (x := some 94) (by kernel_rfl) rfl fun v13 h13 => ?_
                    rcases h13 with rfl
                    refine upon_c (x := some 95) (by kernel_rfl) rfl fun v14 h14 => ?_
                    rcases h14 with rfl
                    refine upon_c (x := some 96) (by kernel_rfl) rfl fun v15 h15 => ?_
                    rcases h15 with rfl
                    refine upon_c (x := some 97) (by kernel_rfl) rfl fun v16 h16 => ?_
                    rcases h16 with rfl
                    refine upon_c (x := some 98) (by kernel_rfl) rfl fun v17 h17 => ?_
                    rcases h17 with rfl
                    refine upon_n ?_
                    go_simp
                    have M1 := hid (M.out.below hg)
                    clear M CK CT1 CT2 hg
                    have FCK : Hid (∀ W, Chg [g] w1 W → W.cell? ⟨px, 4, none⟩ = some (.slice (some ⟨g, 0, none⟩) n c)) := fun W hc =>
                      cell_of_block (j := 4) ((hc.block _ (block_lt M1.out.xb) (by have := M1.out.apart g rfl; simp; omega)).trans M1.out.xb) rfl
                    have HOWN := hid M1.out.own
                    generalize hw1 : w1 = W1 at *
                    clear hw1
                    go_upto_region 18 with (fail)
                    refine wp_region_eachX (m := 22) (Chg [g]) [.eq (.pointer (some ⟨px, 4, none⟩)), .eq (.slice (some ⟨g, 0, none⟩) n c), .eq (.int .i64 ((jp : Int) + 1)), .eq (.pointer (some ⟨px, 4, none⟩)), .eq (.slice (some ⟨g, 0, none⟩) n c), .eq (.int .i64 ((jp : Int) + 1)), .eq (.int .i64 (jp : Int)), .eq (.pointer (some ⟨px, 4, none⟩)), .eq (.slice (some ⟨g, 0, none⟩) n c), .eq (.int .i64 ((jp : Int) + 1)), .eq (.int .i64 (jp : Int)), .eq (.pointer (some ⟨g, jp * 5, none⟩)), .eq (.agg y1.arr), .eq (.pointer (some ⟨px, 4, none⟩)), .eq (.slice (some ⟨g, 0, none⟩) n c), .eq (.int .i64 ((jp : Int) + 1)), .eq (.pointer (some ⟨g, (jp + 1) * 5, none⟩)), .eq (.agg y2.arr), .eq (.pointer (some ⟨g, (jp + 1) * 5, none⟩)), .eq (undef), .eq (.pointer (some ⟨g, jp * 5, none⟩)), .eq (undef)] (SwX 33 z ⟨some ⟨g, 0, none⟩, n, c⟩ l (l.set (jp + 1) y1) ((l.set (jp + 1) y1).set jp y2)) (by kernel_rfl) (by kernel_rfl) (by kernel_rfl) (by kernel_rfl) (Chg.trans1') (by exact (Chg.refl _ _).drew) (by exact SwX.start HOWN.out 22) ?_ ?_
                    · as_aux_lemma =>
                        refine each_c (o' := _) ?_ (each_c (o' := _) ?_ (each_c (o' := _) ?_ (each_c (o' := _) ?_ (each_c (o' := _) ?_ (each_c (o' := _) ?_ (each_c (o' := _) ?_ (each_c (o' := _) ?_ (each_c (o' := _) ?_ (each_c (o' := _) ?_ (each_c (o' := _) ?_ (each_c (o' := _) ?_ (each_c (o' := _) ?_ (each_c (o' := _) ?_ (each_c (o' := _) ?_ (each_c (o' := _) ?_ (each_c (o' := _) ?_ (each_c (o' := _) ?_ (each_c (o' := _) ?_ (each_c (o' := _) ?_ (each_c (o' := _) ?_ (each_c (o' := _) ?_ (each_n))))))))))))))))))))))
                        -- 0: fieldAddr 33 t12 4
                        · intro w1 hg listed up hx Ar seen
                          have s12 := seen.slot 12 (v := .pointer (some ⟨px, 0, none⟩)) (by kernel_rfl) rfl
                          refine doesY_plain rfl fun K Q' hK => ?_
                          go_simp; exact hK _ _ (Chg.refl _ _) (hx.same (by kernel_rfl)) rfl
                        -- 1: load 29 t101
                        · intro w1 hg listed up hx Ar seen
                          obtain ⟨v0, e0, h0⟩ := seen.dep 0 (d := 101) (by kernel_rfl) (by kernel_rfl) rfl
                          rcases h0 with rfl
                          refine doesY_plain rfl fun K Q' hK => ?_
                          have hc := FCK.out _ hg
                          go_simp; exact hK _ _ (Chg.refl _ _) (hx.same (by kernel_rfl)) rfl
                        -- 2: move t14
                        · intro w1 hg listed up hx Ar seen
                          have s14 := seen.slot 14 (v := .int .i64 ((jp : Int) + 1)) (by kernel_rfl) rfl
                          refine doesY_plain rfl fun K Q' hK => ?_
                          go_simp; exact hK _ _ (Chg.refl _ _) (hx.same (by kernel_rfl)) rfl
                        -- 3: fieldAddr 33 t12 4
                        · intro w1 hg listed up hx Ar seen
                          have s12 := seen.slot 12 (v := .pointer (some ⟨px, 0, none⟩)) (by kernel_rfl) rfl
                          refine doesY_plain rfl fun K Q' hK => ?_
                          go_simp; exact hK _ _ (Chg.refl _ _) (hx.same (by kernel_rfl)) rfl
                        -- 4: load 29 t104
                        · intro w1 hg listed up hx Ar seen
                          obtain ⟨v3, e3, h3⟩ := seen.dep 3 (d := 104) (by kernel_rfl) (by kernel_rfl) rfl
                          rcases h3 with rfl
                          refine doesY_plain rfl fun K Q' hK => ?_
                          have hc := FCK.out _ hg
                          go_simp; exact hK _ _ (Chg.refl _ _) (hx.same (by kernel_rfl)) rfl
                        -- 5: move t14
                        · intro w1 hg listed up hx Ar seen
                          have s14 := seen.slot 14 (v := .int .i64 ((jp : Int) + 1)) (by kernel_rfl) rfl
                          refine doesY_plain rfl fun K Q' hK => ?_
                          go_simp; exact hK _ _ (Chg.refl _ _) (hx.same (by kernel_rfl)) rfl
                        -- 6: binOp BinOp.sub 3 t106 1:i64 3
                        · intro w1 hg listed up hx Ar seen
                          obtain ⟨v5, e5, h5⟩ := seen.dep 5 (d := 106) (by kernel_rfl) (by kernel_rfl) rfl
                          rcases h5 with rfl
                          refine doesY_plain rfl fun K Q' hK => ?_
                          have hs := HSUB.out
                          go_simp; exact hK _ _ (Chg.refl _ _) (hx.same (by kernel_rfl)) rfl
                        -- 7: fieldAddr 33 t12 4
                        · intro w1 hg listed up hx Ar seen
                          have s12 := seen.slot 12 (v := .pointer (some ⟨px, 0, none⟩)) (by kernel_rfl) rfl
                          refine doesY_plain rfl fun K Q' hK => ?_
                          go_simp; exact hK _ _ (Chg.refl _ _) (hx.same (by kernel_rfl)) rfl
                        -- 8: load 29 t108
                        · intro w1 hg listed up hx Ar seen
                          obtain ⟨v7, e7, h7⟩ := seen.dep 7 (d := 108) (by kernel_rfl) (by kernel_rfl) rfl
                          rcases h7 with rfl
                          refine doesY_plain rfl fun K Q' hK => ?_
                          have hc := FCK.out _ hg
                          go_simp; exact hK _ _ (Chg.refl _ _) (hx.same (by kernel_rfl)) rfl
                        -- 9: move t14
                        · intro w1 hg listed up hx Ar seen
                          have s14 := seen.slot 14 (v := .int .i64 ((jp : Int) + 1)) (by kernel_rfl) rfl
                          refine doesY_plain rfl fun K Q' hK => ?_
                          go_simp; exact hK _ _ (Chg.refl _ _) (hx.same (by kernel_rfl)) rfl
                        -- 10: binOp BinOp.sub 3 t110 1:i64 3
                        · intro w1 hg listed up hx Ar seen
                          obtain ⟨v9, e9, h9⟩ := seen.dep 9 (d := 110) (by kernel_rfl) (by kernel_rfl) rfl
                          rcases h9 with rfl
                          refine doesY_plain rfl fun K Q' hK => ?_
                          have hs := HSUB.out
                          go_simp; exact hK _ _ (Chg.refl _ _) (hx.same (by kernel_rfl)) rfl
                        -- 11: indexAddr 29 t109 t111
                        · intro w1 hg listed up hx Ar seen
                          obtain ⟨v8, e8, h8⟩ := seen.dep 8 (d := 109) (by kernel_rfl) (by kernel_rfl) rfl
                          rcases h8 with rfl
                          obtain ⟨v10, e10, h10⟩ := seen.dep 10 (d := 111) (by kernel_rfl) (by kernel_rfl) rfl
                          rcases h10 with rfl
                          refine doesY_plain rfl fun K Q' hK => ?_
                          have hb := HJN.out
                          go_simp; exact hK _ _ (Chg.refl _ _) (hx.same (by kernel_rfl)) rfl
                        -- 12: load 33 t112
                        · intro w1 hg listed up hx Ar seen
                          obtain ⟨v11, e11, h11⟩ := seen.dep 11 (d := 112) (by kernel_rfl) (by kernel_rfl) rfl
                          rcases h11 with rfl
                          refine doesY_plain rfl fun K Q' hK => ?_
                          refine wp_load_mid 33 _ rfl g (jp * 5) (by simp [Act.eval, e11]) y1.cells _ (itm_range (hx.old (up.later 19 (by kernel_rfl)) (up.later 21 (by kernel_rfl))) HY1.out HJN.out) Try.underlying33 rfl iSize ?_
                          exact hK _ _ (Chg.refl _ _) (hx.same (by kernel_rfl)) rfl
                        -- 13: fieldAddr 33 t12 4
                        · intro w1 hg listed up hx Ar seen
                          have s12 := seen.slot 12 (v := .pointer (some ⟨px, 0, none⟩)) (by kernel_rfl) rfl
                          refine doesY_plain rfl fun K Q' hK => ?_
                          go_simp; exact hK _ _ (Chg.refl _ _) (hx.same (by kernel_rfl)) rfl
                        -- 14: load 29 t114
                        · intro w1 hg listed up hx Ar seen
                          obtain ⟨v13, e13, h13⟩ := seen.dep 13 (d := 114) (by kernel_rfl) (by kernel_rfl) rfl
                          rcases h13 with rfl
                          refine doesY_plain rfl fun K Q' hK => ?_
                          have hc := FCK.out _ hg
                          go_simp; exact hK _ _ (Chg.refl _ _) (hx.same (by kernel_rfl)) rfl
                        -- 15: move t14
                        · intro w1 hg listed up hx Ar seen
                          have s14 := seen.slot 14 (v := .int .i64 ((jp : Int) + 1)) (by kernel_rfl) rfl
                          refine doesY_plain rfl fun K Q' hK => ?_
                          go_simp; exact hK _ _ (Chg.refl _ _) (hx.same (by kernel_rfl)) rfl
                        -- 16: indexAddr 29 t115 t116
                        · intro w1 hg listed up hx Ar seen
                          obtain ⟨v14, e14, h14⟩ := seen.dep 14 (d := 115) (by kernel_rfl) (by kernel_rfl) rfl
                          rcases h14 with rfl
                          obtain ⟨v15, e15, h15⟩ := seen.dep 15 (d := 116) (by kernel_rfl) (by kernel_rfl) rfl
                          rcases h15 with rfl
                          refine doesY_plain rfl fun K Q' hK => ?_
                          have hb := HJB.out
                          go_simp; exact hK _ _ (Chg.refl _ _) (hx.same (by kernel_rfl)) rfl
                        -- 17: load 33 t117
                        · intro w1 hg listed up hx Ar seen
                          obtain ⟨v16, e16, h16⟩ := seen.dep 16 (d := 117) (by kernel_rfl) (by kernel_rfl) rfl
                          rcases h16 with rfl
                          refine doesY_plain rfl fun K Q' hK => ?_
                          refine wp_load_mid 33 _ rfl g ((jp + 1) * 5) (by simp [Act.eval, e16]) y2.cells _ (itm_range (hx.old (up.later 19 (by kernel_rfl)) (up.later 21 (by kernel_rfl))) HY2.out HJ1.out) Try.underlying33 rfl iSize ?_
                          exact hK _ _ (Chg.refl _ _) (hx.same (by kernel_rfl)) rfl
                        -- 18: indexAddr 29 t102 t103
                        · intro w1 hg listed up hx Ar seen
                          obtain ⟨v1, e1, h1⟩ := seen.dep 1 (d := 102) (by kernel_rfl) (by kernel_rfl) rfl
                          rcases h1 with rfl
                          obtain ⟨v2, e2, h2⟩ := seen.dep 2 (d := 103) (by kernel_rfl) (by kernel_rfl) rfl
                          rcases h2 with rfl
                          refine doesY_plain rfl fun K Q' hK => ?_
                          have hb := HJB.out
                          go_simp; exact hK _ _ (Chg.refl _ _) (hx.same (by kernel_rfl)) rfl
                        -- 19: store 33 t119 t113
                        · intro w1 hg listed up hx Ar seen
                          obtain ⟨v12, e12, h12⟩ := seen.dep 12 (d := 113) (by kernel_rfl) (by kernel_rfl) rfl
                          rcases h12 with rfl
                          obtain ⟨v18, e18, h18⟩ := seen.dep 18 (d := 119) (by kernel_rfl) (by kernel_rfl) rfl
                          rcases h18 with rfl
                          refine doesY_plain rfl fun K Q' hK => ?_
                          have ho : w1.ownsRow z 33 5 (.slice (some ⟨g, 0, none⟩) n c) n (itmCells l) := hx.old up.self (up.later 21 (by kernel_rfl))
                          refine wp_store_at 33 _ _ rfl g ((jp + 1) * 5) (by simp [Act.eval, e18]) y1 (by simp [Act.eval, e12]) ho (jp + 1) HJ1.out rfl iSize (arr_one y1) ?_
                          intro w2 ho2 hc2 hs2
                          exact hK undef _ hc2 (SwX.one up.lt' (up.later 21 (by kernel_rfl)) ho2) rfl
                        -- 20: indexAddr 29 t105 t107
                        · intro w1 hg listed up hx Ar seen
                          obtain ⟨v4, e4, h4⟩ := seen.dep 4 (d := 105) (by kernel_rfl) (by kernel_rfl) rfl
                          rcases h4 with rfl
                          obtain ⟨v6, e6, h6⟩ := seen.dep 6 (d := 107) (by kernel_rfl) (by kernel_rfl) rfl
                          rcases h6 with rfl
                          refine doesY_plain rfl fun K Q' hK => ?_
                          have hb := HJN.out
                          go_simp; exact hK _ _ (Chg.refl _ _) (hx.same (by kernel_rfl)) rfl
                        -- 21: store 33 t120 t118
                        · intro w1 hg listed up hx Ar seen
                          obtain ⟨v17, e17, h17⟩ := seen.dep 17 (d := 118) (by kernel_rfl) (by kernel_rfl) rfl
                          rcases h17 with rfl
                          obtain ⟨v20, e20, h20⟩ := seen.dep 20 (d := 120) (by kernel_rfl) (by kernel_rfl) rfl
                          rcases h20 with rfl
                          refine doesY_plain rfl fun K Q' hK => ?_
                          have ho : w1.ownsRow z 33 5 (.slice (some ⟨g, 0, none⟩) n c) n (itmCells (l.set (jp + 1) y1)) := hx.mid (up.did 19 (by decide)) up.self
                          refine wp_store_at 33 _ _ rfl g (jp * 5) (by simp [Act.eval, e20]) y2 (by simp [Act.eval, e17]) ho jp HJN.out rfl iSize (arr_one y2) ?_
                          intro w2 ho2 hc2 hs2
                          exact hK undef _ hc2 (SwX.two up.lt' ho2) rfl
                    intro w1 hg listed hl hx
                    refine upon_w' (js := [0, 1, 2, 3, 4, 5, 6, 7, 8, 9, 10, 11, 12, 13, 14, 15, 16, 17, 18, 19, 20, 21]) (by rfl) ?_
                    refine upon_c (x := some 101) (by kernel_rfl) rfl fun v0 h0 => ?_
                    rcases h0 with rfl
                    refine upon_c (x := some 102) (by kernel_rfl) rfl fun v1 h1 => ?_
                    rcases h1 with rfl
                    refine upon_c (x := some 103) (by kernel_rfl) rfl fun v2 h2 => ?_
                    rcases h2 with rfl
                    refine upon_c (x := some 104) (by kernel_rfl) rfl fun v3 h3 => ?_
                    rcases h3 with rfl
                    refine upon_c (x := some 105) (by kernel_rfl) rfl fun v4 h4 => ?_
                    rcases h4 with rfl
                    refine upon_c (x := some 106) (by kernel_rfl) rfl fun v5 h5 => ?_
                    rcases h5 with rfl
                    refine upon_c (x := some 107) (by kernel_rfl) rfl fun v6 h6 => ?_
                    rcases h6 with rfl
                    refine upon_c (x := some 108) (by kernel_rfl) rfl fun v7 h7 => ?_
                    rcases h7 with rfl
                    refine upon_c (x := some 109) (by kernel_rfl) rfl fun v8 h8 => ?_
                    rcases h8 with rfl
                    refine upon_c (x := some 110) (by kernel_rfl) rfl fun v9 h9 => ?_
                    rcases h9 with rfl
                    refine upon_c (x := some 111) (by kernel_rfl) rfl fun v10 h10 => ?_
                    rcases h10 with rfl
                    refine upon_c (x := some 112) (by kernel_rfl) rfl fun v11 h11 => ?_
                    rcases h11 with rfl
                    refine upon_c (x := some 113) (by kernel_rfl) rfl fun v12 h12 => ?_
                    rcases h12 with rfl
                    refine upon_c (x := some 114) (by kernel_rfl) rfl fun v13 h13 => ?_
                    rcases h13 with rfl
                    refine upon_c (x := some 115) (by kernel_rfl) rfl fun v14 h14 => ?_
                    rcases h14 with rfl
                    refine upon_c (x := some 116) (by kernel_rfl) rfl fun v15 h15 => ?_
                    rcases h15 with rfl
                    refine upon_c (x := some 117) (by kernel_rfl) rfl fun v16 h16 => ?_
                    rcases h16 with rfl
                    refine upon_c (x := some 118) (by kernel_rfl) rfl fun v17 h17 => ?_
                    rcases h17 with rfl
                    refine upon_c (x := some 119) (by kernel_rfl) rfl fun v18 h18 => ?_
                    rcases h18 with rfl
                    refine upon_c (x := none) (by kernel_rfl) rfl fun v19 h19 => ?_
                    rcases h19 with rfl
                    refine upon_c (x := some 120) (by kernel_rfl) rfl fun v20 h20 => ?_
                    rcases h20 with rfl
                    refine upon_c (x := none) (by kernel_rfl) rfl fun v21 h21 => ?_
                    rcases h21 with rfl
                    refine upon_n ?_
                    go_simp
                    have M2 := hid (M1.out.swap rfl hg (hx.fin (hl 21 (by decide))) (set_flat (set_flat M1.out.flat (M1.out.flat y1 (List.mem_of_getElem? HY1.out))) (M1.out.flat y2 (List.mem_of_getElem? HY2.out))))
                    clear M1 hg hx hl HOWN FCK
                    go_wp2_with fail
                    go_roundw
                    case rel =>
                      first
                        | exact ⟨jp, _, by omega, by go_num, M2.out⟩
                        | ((repeat apply Exists.intro); exact ⟨⟨jp, _, by omega, by go_num, M2.out⟩, rfl⟩)
                    case measure => simp [intOf]
                  · go_upto_region 16 with (fail)
                    refine wp_region_each 18 [.eq (.int .i64 ((jp : Int) + 1)), .eq (.bool true), .eq (.bool true), .eq (.pointer (some ⟨px, 4, none⟩)), .eq (.slice (some ⟨g, 0, none⟩) n c), .eq (.int .i64 ((jp : Int) + 1)), .eq (.pointer (some ⟨g, (jp + 1) * 5, none⟩)), .eq (.pointer (some ⟨g, (jp + 1) * 5, none⟩)), .eq (.int .i64 y2.tag), .eq (.pointer (some ⟨px, 4, none⟩)), .eq (.slice (some ⟨g, 0, none⟩) n c), .eq (.int .i64 ((jp : Int) + 1)), .eq (.int .i64 (jp : Int)), .eq (.pointer (some ⟨g, jp * 5, none⟩)), .eq (.pointer (some ⟨g, jp * 5, none⟩)), .eq (.int .i64 y1.tag), .eq (.bool false), .eq (.bool false)] (by kernel_rfl) (by kernel_rfl) (by kernel_rfl) (by kernel_rfl) ?_ ?_
                    · as_aux_lemma =>
                        refine each_c (o' := _) ?_ (each_c (o' := _) ?_ (each_c (o' := _) ?_ (each_c (o' := _) ?_ (each_c (o' := _) ?_ (each_c (o' := _) ?_ (each_c (o' := _) ?_ (each_c (o' := _) ?_ (each_c (o' := _) ?_ (each_c (o' := _) ?_ (each_c (o' := _) ?_ (each_c (o' := _) ?_ (each_c (o' := _) ?_ (each_c (o' := _) ?_ (each_c (o' := _) ?_ (each_c (o' := _) ?_ (each_c (o' := _) ?_ (each_c (o' := _) ?_ (each_n))))))))))))))))))
                        -- 0: move t14
                        · intro w1 hg Ar seen
                          have s14 := seen.slot 14 (v := .int .i64 ((jp : Int) + 1)) (by kernel_rfl) rfl
                          refine does_plain rfl fun K Q' hK => ?_
                          go_simp; exact hK _ _ (Grow.refl _) rfl
                        -- 1: binOp BinOp.gtr 3 t81 0:i64 3
                        · intro w1 hg Ar seen
                          obtain ⟨v0, e0, h0⟩ := seen.dep 0 (d := 81) (by kernel_rfl) (by kernel_rfl) rfl
                          rcases h0 with rfl
                          refine does_plain rfl fun K Q' hK => ?_
                          go_simp; exact hK _ _ (Grow.refl _) rfl
                        -- 2: move t82
                        · intro w1 hg Ar seen
                          obtain ⟨v1, e1, h1⟩ := seen.dep 1 (d := 82) (by kernel_rfl) (by kernel_rfl) rfl
                          rcases h1 with rfl
                          refine does_plain rfl fun K Q' hK => ?_
                          go_simp; exact hK _ _ (Grow.refl _) rfl
                        -- 3: fieldAddr 33 t12 4
                        · intro w1 hg Ar seen
                          obtain ⟨v2, e2, h2⟩ := seen.dep 2 (d := 83) (by kernel_rfl) (by kernel_rfl) rfl
                          rcases h2 with rfl
                          have s12 := seen.slot 12 (v := .pointer (some ⟨px, 0, none⟩)) (by kernel_rfl) rfl
                          refine does_on rfl (by kernel_rfl) e2 fun K Q' hK => ?_
                          clear e2
                          go_simp; exact hK _ _ (Grow.refl _) rfl
                        -- 4: load 29 t84
                        · intro w1 hg Ar seen
                          obtain ⟨v3, e3, h3⟩ := seen.dep 3 (d := 84) (by kernel_rfl) (by kernel_rfl) rfl
                          rcases h3 with rfl
                          obtain ⟨v2, e2, h2⟩ := seen.dep 2 (d := 83) (by kernel_rfl) (by kernel_rfl) rfl
                          rcases h2 with rfl
                          refine does_on rfl (by kernel_rfl) e2 fun K Q' hK => ?_
                          clear e2
                          have hc := cell_later hg CK.out
                          go_simp; exact hK _ _ (Grow.refl _) rfl
                        -- 5: move t14
                        · intro w1 hg Ar seen
                          obtain ⟨v2, e2, h2⟩ := seen.dep 2 (d := 83) (by kernel_rfl) (by kernel_rfl) rfl
                          rcases h2 with rfl
                          have s14 := seen.slot 14 (v := .int .i64 ((jp : Int) + 1)) (by kernel_rfl) rfl
                          refine does_on rfl (by kernel_rfl) e2 fun K Q' hK => ?_
                          clear e2
                          go_simp; exact hK _ _ (Grow.refl _) rfl
                        -- 6: indexAddr 29 t85 t86
                        · intro w1 hg Ar seen
                          obtain ⟨v4, e4, h4⟩ := seen.dep 4 (d := 85) (by kernel_rfl) (by kernel_rfl) rfl
                          rcases h4 with rfl
                          obtain ⟨v5, e5, h5⟩ := seen.dep 5 (d := 86) (by kernel_rfl) (by kernel_rfl) rfl
                          rcases h5 with rfl
                          obtain ⟨v2, e2, h2⟩ := seen.dep 2 (d := 83) (by kernel_rfl) (by kernel_rfl) rfl
                          rcases h2 with rfl
                          refine does_on rfl (by kernel_rfl) e2 fun K Q' hK => ?_
                          clear e2
                          have hb := HJB.out
                          go_simp; exact hK _ _ (Grow.refl _) rfl
                        -- 7: fieldAddr 33 t87 0
                        · intro w1 hg Ar seen
                          obtain ⟨v6, e6, h6⟩ := seen.dep 6 (d := 87) (by kernel_rfl) (by kernel_rfl) rfl
                          rcases h6 with rfl
                          obtain ⟨v2, e2, h2⟩ := seen.dep 2 (d := 83) (by kernel_rfl) (by kernel_rfl) rfl
                          rcases h2 with rfl
                          refine does_on rfl (by kernel_rfl) e2 fun K Q' hK => ?_
                          clear e2
                          go_simp; exact hK _ _ (Grow.refl _) rfl
                        -- 8: load 3 t88
                        · intro w1 hg Ar seen
                          obtain ⟨v7, e7, h7⟩ := seen.dep 7 (d := 88) (by kernel_rfl) (by kernel_rfl) rfl
                          rcases h7 with rfl
                          obtain ⟨v2, e2, h2⟩ := seen.dep 2 (d := 83) (by kernel_rfl) (by kernel_rfl) rfl
                          rcases h2 with rfl
                          refine does_on rfl (by kernel_rfl) e2 fun K Q' hK => ?_
                          clear e2
                          have hc := cell_later hg CT2.out
                          go_simp; exact hK _ _ (Grow.refl _) rfl
                        -- 9: fieldAddr 33 t12 4
                        · intro w1 hg Ar seen
                          obtain ⟨v2, e2, h2⟩ := seen.dep 2 (d := 83) (by kernel_rfl) (by kernel_rfl) rfl
                          rcases h2 with rfl
                          have s12 := seen.slot 12 (v := .pointer (some ⟨px, 0, none⟩)) (by kernel_rfl) rfl
                          refine does_on rfl (by kernel_rfl) e2 fun K Q' hK => ?_
                          clear e2
                          go_simp; exact hK _ _ (Grow.refl _) rfl
                        -- 10: load 29 t90
                        · intro w1 hg Ar seen
                          obtain ⟨v9, e9, h9⟩ := seen.dep 9 (d := 90) (by kernel_rfl) (by kernel_rfl) rfl
                          rcases h9 with rfl
                          obtain ⟨v2, e2, h2⟩ := seen.dep 2 (d := 83) (by kernel_rfl) (by kernel_rfl) rfl
                          rcases h2 with rfl
                          refine does_on rfl (by kernel_rfl) e2 fun K Q' hK => ?_
                          clear e2
                          have hc := cell_later hg CK.out
                          go_simp; exact hK _ _ (Grow.refl _) rfl
                        -- 11: move t14
                        · intro w1 hg Ar seen
                          obtain ⟨v2, e2, h2⟩ := seen.dep 2 (d := 83) (by kernel_rfl) (by kernel_rfl) rfl
                          rcases h2 with rfl
                          have s14 := seen.slot 14 (v := .int .i64 ((jp : Int) + 1)) (by kernel_rfl) rfl
                          refine does_on rfl (by kernel_rfl) e2 fun K Q' hK => ?_
                          clear e2
                          go_simp; exact hK _ _ (Grow.refl _) rfl
                        -- 12: binOp BinOp.sub 3 t92 1:i64 3
                        · intro w1 hg Ar seen
                          obtain ⟨v11, e11, h11⟩ := seen.dep 11 (d := 92) (by kernel_rfl) (by kernel_rfl) rfl
                          rcases h11 with rfl
                          obtain ⟨v2, e2, h2⟩ := seen.dep 2 (d := 83) (by kernel_rfl) (by kernel_rfl) rfl
                          rcases h2 with rfl
                          refine does_on rfl (by kernel_rfl) e2 fun K Q' hK => ?_
                          clear e2
                          have hs := HSUB.out
                          go_simp; exact hK _ _ (Grow.refl _) rfl
                        -- 13: indexAddr 29 t91 t93
                        · intro w1 hg Ar seen
                          obtain ⟨v10, e10, h10⟩ := seen.dep 10 (d := 91) (by kernel_rfl) (by kernel_rfl) rfl
                          rcases h10 with rfl
                          obtain ⟨v12, e12, h12⟩ := seen.dep 12 (d := 93) (by kernel_rfl) (by kernel_rfl) rfl
                          rcases h12 with rfl
                          obtain ⟨v2, e2, h2⟩ := seen.dep 2 (d := 83) (by kernel_rfl) (by kernel_rfl) rfl
                          rcases h2 with rfl
                          refine does_on rfl (by kernel_rfl) e2 fun K Q' hK => ?_
                          clear e2
                          have hb := HJN.out
                          go_simp; exact hK _ _ (Grow.refl _) rfl
                        -- 14: fieldAddr 33 t94 0
                        · intro w1 hg Ar seen
                          obtain ⟨v13, e13, h13⟩ := seen.dep 13 (d := 94) (by kernel_rfl) (by kernel_rfl) rfl
                          rcases h13 with rfl
                          obtain ⟨v2, e2, h2⟩ := seen.dep 2 (d := 83) (by kernel_rfl) (by kernel_rfl) rfl
                          rcases h2 with rfl
                          refine does_on rfl (by kernel_rfl) e2 fun K Q' hK => ?_
                          clear e2
                          go_simp; exact hK _ _ (Grow.refl _) rfl
                        -- 15: load 3 t95
                        · intro w1 hg Ar seen
                          obtain ⟨v14, e14, h14⟩ := seen.dep 14 (d := 95) (by kernel_rfl) (by kernel_rfl) rfl
                          rcases h14 with rfl
                          obtain ⟨v2, e2, h2⟩ := seen.dep 2 (d := 83) (by kernel_rfl) (by kernel_rfl) rfl
                          rcases h2 with rfl
                          refine does_on rfl (by kernel_rfl) e2 fun K Q' hK => ?_
                          clear e2
                          have hc := cell_later hg CT1.out
                          go_simp; exact hK _ _ (Grow.refl _) rfl
                        -- 16: binOp BinOp.lss 3 t89 t96 3
                        · intro w1 hg Ar seen
                          obtain ⟨v8, e8, h8⟩ := seen.dep 8 (d := 89) (by kernel_rfl) (by kernel_rfl) rfl
                          rcases h8 with rfl
                          obtain ⟨v15, e15, h15⟩ := seen.dep 15 (d := 96) (by kernel_rfl) (by kernel_rfl) rfl
                          rcases h15 with rfl
                          obtain ⟨v2, e2, h2⟩ := seen.dep 2 (d := 83) (by kernel_rfl) (by kernel_rfl) rfl
                          rcases h2 with rfl
                          refine does_on rfl (by kernel_rfl) e2 fun K Q' hK => ?_
                          clear e2
                          go_simp; exact hK _ _ (Grow.refl _) rfl
                        -- 17: pick t83 t97 false
                        · intro w1 hg Ar seen
                          obtain ⟨v2, e2, h2⟩ := seen.dep 2 (d := 83) (by kernel_rfl) (by kernel_rfl) rfl
                          rcases h2 with rfl
                          obtain ⟨v16, e16, h16⟩ := seen.dep 16 (d := 97) (by kernel_rfl) (by kernel_rfl) rfl
                          rcases h16 with rfl
                          refine does_plain rfl fun K Q' hK => ?_
                          go_simp; exact hK _ _ (Grow.refl _) rfl
                    intro w1 hg
                    refine upon_w' (js := [0, 1, 2, 3, 4, 5, 6, 7, 8, 9, 10, 11, 12, 13, 14, 15, 16, 17]) (by rfl) ?_
                    refine upon_c (x := some 81) (by kernel_rfl) rfl fun v0 h0 => ?_
                    rcases h0 with rfl
                    refine upon_c (x := some 82) (by kernel_rfl) rfl fun v1 h1 => ?_
                    rcases h1 with rfl
                    refine upon_c (x := some 83) (by kernel_rfl) rfl fun v2 h2 => ?_
                    rcases h2 with rfl
                    refine upon_c (x := some 84) (by kernel_rfl) rfl fun v3 h3 => ?_
                    rcases h3 with rfl
                    refine upon_c (x := some 85) (by kernel_rfl) rfl fun v4 h4 => ?_
                    rcases h4 with rfl
                    refine upon_c (x := some 86) (by kernel_rfl) rfl fun v5 h5 => ?_
                    rcases h5 with rfl
                    refine upon_c (x := some 87) (by kernel_rfl) rfl fun v6 h6 => ?_
                    rcases h6 with rfl
                    refine upon_c (x := some 88) (by kernel_rfl) rfl fun v7 h7 => ?_
                    rcases h7 with rfl
                    refine upon_c (x := some 89) (by kernel_rfl) rfl fun v8 h8 => ?_
                    rcases h8 with rfl
                    refine upon_c (x := some 90) (by kernel_rfl) rfl fun v9 h9 => ?_
                    rcases h9 with rfl
                    refine upon_c (x := some 91) (by kernel_rfl) rfl fun v10 h10 => ?_
                    rcases h10 with rfl
                    refine upon_c (x := some 92) (by kernel_rfl) rfl fun v11 h11 => ?_
                    rcases h11 with rfl
                    refine upon_c (x := some 93) (by kernel_rfl) rfl fun v12 h12 => ?_
                    rcases h12 with rfl
                    refine upon_c (x := some 94) (by kernel_rfl) rfl fun v13 h13 => ?_
                    rcases h13 with rfl
                    refine upon_c (x := some 95) (by kernel_rfl) rfl fun v14 h14 => ?_
                    rcases h14 with rfl
                    refine upon_c (x := some 96) (by kernel_rfl) rfl fun v15 h15 => ?_
                    rcases h15 with rfl
                    refine upon_c (x := some 97) (by kernel_rfl) rfl fun v16 h16 => ?_
                    rcases h16 with rfl
                    refine upon_c (x := some 98) (by kernel_rfl) rfl fun v17 h17 => ?_
                    rcases h17 with rfl
                    refine upon_n ?_
                    go_simp
                    go_wp2_with fail
                    go_meet
                    exact ⟨l, M.out.below hg⟩
            case rest =>
              obtain ⟨l, hm⟩ := hcut
              have M := hid hm
              clear hm
              go_wp2_with fail
              go_roundw
              case rel =>
                first
                  | exact ⟨k + 1, l, by omega, by omega, by go_num, M.out⟩
                  | ((repeat apply Exists.intro); exact ⟨⟨k + 1, l, by omega, by omega, by go_num, M.out⟩, rfl⟩)
              case measure => simp [intOf]; omega
          · go_wp2_with fail
            go_meet
            exact ⟨l, M.out⟩
    case rest =>
      obtain ⟨l, hm⟩ := hcut
      clear M
      have M := hid hm
      clear hm
      have hkm := HKM.out
      go_upto_if 123 with (fail)
      clear hkm
      go_cut [] (fun wx => ∃ t, PPs w b z px ⟨sa, n, c⟩ t sF fl l wx)
      case first =>
        have hc1 : wc.cell? ⟨px, 1, none⟩ = some (.int .i64 1) := cell_of_block (j := 1) M.out.xb rfl
        have hz1 := frozen_of_block (j := 1) M.out.xb
        by_cases hq : kind.tmod 12 = 11
        · have hqb : (kind.tmod 12 == 11) = true := by simp [hq]
          go_wp2_with fail
          go_meet
          exact ⟨2, M.out.typ2⟩
        · have hqb : (kind.tmod 12 == 11) = false := by simp [hq]
          go_wp2_with fail
          go_meet
          exact ⟨1, M.out⟩
      case rest =>
        obtain ⟨t, hm⟩ := hcut
        clear M
        have M := hid hm
        clear hm
        have hfn : fl.length = sF.n := by have := M.out.fld.1; rw [fld_len] at this; omega
        have HFN := hid hfn
        clear hfn
        go_wp2_with (refine wpList_load_row rfl 33 _ rfl px rfl _ _ _ _ M.out.xb Try.underlying33 rfl iSize ?_)
        refine (parse_any { tag := 9, typ := t, ks := ⟨sa, n, c⟩, kids := l } sF fl _ (M.out.item (by simp only; omega)) (SlR.of_own M.out.fld (by omega))).mono ?_
        intro e w4 hres
        unfold Parsed at hres
        cases hp : parseV fl (ItV.it { tag := 9, typ := t, ks := ⟨sa, n, c⟩, kids := l }) with
        | error cc =>
          rw [hp] at hres
          obtain ⟨rfl, hb4⟩ := hres
          have HPV := hid hp
          have M4 := hid (M.out.below hb4)
          clear hb4 M hp
          go_wp2_with (refine wpList_load_row rfl 33 _ rfl px rfl _ _ _ _ M4.out.xb Try.underlying33 rfl iSize ?_)
          refine (refParse_any { tag := 9, typ := t, ks := ⟨sa, n, c⟩, kids := l } sF fl _ (M4.out.item (by simp only; omega)) (SlR.of_own M4.out.fld (by omega))).mono ?_
          intro e w5 hres
          unfold ParsedR at hres
          rw [HPV.out] at hres
          obtain ⟨rfl, hb5⟩ := hres
          have M5 := hid (M4.out.below hb5)
          clear hb5 M4
          go_wp2_with fail
          refine (known15_any _).mono ?_
          rintro e w6 ⟨rfl, hb6⟩
          have B6 := hid (M5.out.bel.trans (hb6.mono M5.out.lt))
          clear hb6 M5
          go_wp2_with fail
          go_loopw [19] (fun y wr => y = .int .i64 0 ∧ Below b w wr) (fun _ _ => 0)
          case atStart => exact ⟨rfl, B6.out⟩
          case round =>
            clear B6
            obtain ⟨rfl, hb⟩ := hrel
            have B := hid hb
            clear hb
            go_wp2_with fail
            go_ret
            exact ⟨rfl, B.out⟩
        | ok rows =>
          rw [hp] at hres
          obtain ⟨so1, sls1, rv1, rfl, hr1, hrv1, hm1, hb4⟩ := hres
          have HPV := hid hp
          have hrows : rows.length ≤ 5 := by rw [parseV_len hp, HFN.out]; exact hs5
          have M4 := hid (M.out.below hb4)
          have HR1 := hid hr1; have HRV1 := hid hrv1; have HM1 := hid hm1
          have hln1 := hr1.rlen hrv1
          clear hb4 M hp hr1 hrv1 hm1
          generalize wc.heap.size = z1 at *
          obtain ⟨a1, n1, c1⟩ := so1
          simp only at hln1
          have HL1 := hid hln1
          clear hln1
          go_wp2_with (refine wpList_load_row rfl 33 _ rfl px rfl _ _ _ _ M4.out.xb Try.underlying33 rfl iSize ?_)
          refine (refParse_any { tag := 9, typ := t, ks := ⟨sa, n, c⟩, kids := l } sF fl _ (M4.out.item (by simp only; omega)) (SlR.of_own M4.out.fld (by omega))).mono ?_
          intro e w5 hres
          unfold ParsedR at hres
          rw [HPV.out] at hres
          obtain ⟨so2, sls2, rv2, rfl, hr2, hrv2, hm2, hb5⟩ := hres
          have M5 := hid (M4.out.below hb5)
          have HR15 := hid (HR1.out.below hb5)
          have HR2 := hid hr2; have HRV2 := hid hrv2; have HM2 := hid hm2
          have hln2 := hr2.rlen hrv2
          clear hb5 M4 hr2 hrv2 hm2 HR1
          generalize w4.heap.size = z2 at *
          obtain ⟨a2, n2, c2⟩ := so2
          simp only at hln2
          obtain rfl : n2 = n1 := by have := HL1.out; omega
          have hn5 : n2 ≤ 5 := by omega
          have HL := hid hln2
          clear hln2 HL1
          go_wp2_with fail
          refine (known15_any _).mono ?_
          rintro e w6 ⟨rfl, hb6⟩
          have B6 := hid (M5.out.bel.trans (hb6.mono M5.out.lt))
          have HR16 := hid (HR15.out.below hb6); have HR26 := hid (HR2.out.below hb6)
          have HBW6 := hid (Nat.le_trans M5.out.lt hb6.size)
          clear hb6 M5 HR15 HR2
          go_wp2_with fail
          go_loopw [19] (fun y wr => ∃ k : Nat, k ≤ n2 ∧ y = .int .i64 k ∧ Rows2 29 33 wr z1 z1 ⟨a1, n2, c1⟩ sls1 rv1 ∧ Rows2 29 33 wr z2 0 ⟨a2, n2, c2⟩ sls2 rv2 ∧ Below b w wr ∧ b ≤ wr.heap.size) (fun y _ => n2 - (intOf y).toNat)
          case atStart => exact ⟨0, Nat.zero_le _, rfl, HR16.out, HR26.out, B6.out, HBW6.out⟩
          case round =>
            clear B6 HR16 HR26 HBW6
            obtain ⟨k, hk, rfl, hr1, hr2, hb, hbw⟩ := hrel
            have HR1 := hid hr1; have HR2 := hid hr2; have B := hid hb; have HBW := hid hbw
            clear hr1 hr2 hb hbw
            by_cases hlt : k < n2
            · obtain ⟨r, hr⟩ : ∃ r, rows[k]? = some r := ⟨_, List.getElem?_eq_getElem (by have := HL.out; omega)⟩
              obtain ⟨x1, l1, g1, hs1, -, hi1', ho1, -, hg1, hc1, -⟩ := HR1.out.at HRV1.out hr
              obtain ⟨x2, l2, g2, hs2, -, hi2', ho2, -, hg2, hc2, -⟩ := HR2.out.at HRV2.out hr
              simp only at hg1 hg2
              subst hg1
              subst hg2
              have C1 := hid hc1; have C2 := hid hc2
              have HX1 := hid (HM1.out x1 (List.mem_of_getElem? hs1)); have HX2 := hid (HM2.out x2 (List.mem_of_getElem? hs2))
              have HO1 := hid ho1; have HO2 := hid ho2
              have HEQ : Hid (l1.map ItV.it = l2.map ItV.it) := hi1'.trans hi2'.symm
              clear hc1 hc2 hs1 hs2 ho1 ho2 hi1' hi2' hr
              go_upto_region 28 with (fail)
              refine wp_region_each 12 [.eq (.slice (some ⟨g1, 0, none⟩) n2 c1), .eq (.int .i64 (k : Int)), .eq (.pointer (some ⟨g1, k, none⟩)), .eq (.slice x1.a x1.n x1.c), .eq (.agg (ItV.arr { ks := x1 })), .eq (.slice (some ⟨g2, 0, none⟩) n2 c2), .eq (.int .i64 (k : Int)), .eq (.pointer (some ⟨g2, k, none⟩)), .eq (.slice x2.a x2.n x2.c), .eq (.agg (ItV.arr { ks := x2 })), .eq (.bool true), .eq (.bool false)] (by kernel_rfl) (by kernel_rfl) (by kernel_rfl) (by kernel_rfl) ?_ ?_
              · as_aux_lemma =>
                  refine each_c (o' := _) ?_ (each_c (o' := _) ?_ (each_c (o' := _) ?_ (each_c (o' := _) ?_ (each_c (o' := _) ?_ (each_c (o' := _) ?_ (each_c (o' := _) ?_ (each_c (o' := _) ?_ (each_c (o' := _) ?_ (each_c (o' := _) ?_ (each_c (o' := _) ?_ (each_c (o' := _) ?_ (each_n))))))))))))
                  -- 0: move t15
                  · intro w1 hg Ar seen
                    have s15 := seen.slot 15 (v := .slice (some ⟨g1, 0, none⟩) n2 c1) (by kernel_rfl) rfl
                    refine does_plain rfl fun K Q' hK => ?_
                    go_simp; exact hK _ _ (Grow.refl _) rfl
                  -- 1: move t19
                  · intro w1 hg Ar seen
                    have s19 := seen.slot 19 (v := .int .i64 (k : Int)) (by kernel_rfl) rfl
                    refine does_plain rfl fun K Q' hK => ?_
                    go_simp; exact hK _ _ (Grow.refl _) rfl
                  -- 2: indexAddr 34 t157 t158
                  · intro w1 hg Ar seen
                    obtain ⟨v0, e0, h0⟩ := seen.dep 0 (d := 157) (by kernel_rfl) (by kernel_rfl) rfl
                    rcases h0 with rfl
                    obtain ⟨v1, e1, h1⟩ := seen.dep 1 (d := 158) (by kernel_rfl) (by kernel_rfl) rfl
                    rcases h1 with rfl
                    refine does_plain rfl fun K Q' hK => ?_
                    go_simp; exact hK _ _ (Grow.refl _) rfl
                  -- 3: load 29 t159
                  · intro w1 hg Ar seen
                    obtain ⟨v2, e2, h2⟩ := seen.dep 2 (d := 159) (by kernel_rfl) (by kernel_rfl) rfl
                    rcases h2 with rfl
                    refine does_plain rfl fun K Q' hK => ?_
                    have hc := cell_later hg C1.out
                    go_simp; exact hK _ _ (Grow.refl _) rfl
                  -- 4: build 33 [(4, t160)]
                  · intro w1 hg Ar seen
                    obtain ⟨v3, e3, h3⟩ := seen.dep 3 (d := 160) (by kernel_rfl) (by kernel_rfl) rfl
                    rcases h3 with rfl
                    refine does_plain rfl fun K Q' hK => ?_
                    go_simp; exact hK _ _ (Grow.refl _) rfl
                  -- 5: move t17
                  · intro w1 hg Ar seen
                    have s17 := seen.slot 17 (v := .slice (some ⟨g2, 0, none⟩) n2 c2) (by kernel_rfl) rfl
                    refine does_plain rfl fun K Q' hK => ?_
                    go_simp; exact hK _ _ (Grow.refl _) rfl
                  -- 6: move t19
                  · intro w1 hg Ar seen
                    have s19 := seen.slot 19 (v := .int .i64 (k : Int)) (by kernel_rfl) rfl
                    refine does_plain rfl fun K Q' hK => ?_
                    go_simp; exact hK _ _ (Grow.refl _) rfl
                  -- 7: indexAddr 34 t162 t163
                  · intro w1 hg Ar seen
                    obtain ⟨v5, e5, h5⟩ := seen.dep 5 (d := 162) (by kernel_rfl) (by kernel_rfl) rfl
                    rcases h5 with rfl
                    obtain ⟨v6, e6, h6⟩ := seen.dep 6 (d := 163) (by kernel_rfl) (by kernel_rfl) rfl
                    rcases h6 with rfl
                    refine does_plain rfl fun K Q' hK => ?_
                    go_simp; exact hK _ _ (Grow.refl _) rfl
                  -- 8: load 29 t164
                  · intro w1 hg Ar seen
                    obtain ⟨v7, e7, h7⟩ := seen.dep 7 (d := 164) (by kernel_rfl) (by kernel_rfl) rfl
                    rcases h7 with rfl
                    refine does_plain rfl fun K Q' hK => ?_
                    have hc := cell_later hg C2.out
                    go_simp; exact hK _ _ (Grow.refl _) rfl
                  -- 9: build 33 [(4, t165)]
                  · intro w1 hg Ar seen
                    obtain ⟨v8, e8, h8⟩ := seen.dep 8 (d := 165) (by kernel_rfl) (by kernel_rfl) rfl
                    rcases h8 with rfl
                    refine does_plain rfl fun K Q' hK => ?_
                    go_simp; exact hK _ _ (Grow.refl _) rfl
                  -- 10: call fn12<locksmithref6.Same> [t161, t166] T[33, 33]
                  · intro w1 hg Ar seen
                    obtain ⟨v4, e4, h4⟩ := seen.dep 4 (d := 161) (by kernel_rfl) (by kernel_rfl) rfl
                    rcases h4 with rfl
                    obtain ⟨v9, e9, h9⟩ := seen.dep 9 (d := 166) (by kernel_rfl) (by kernel_rfl) rfl
                    rcases h9 with rfl
                    refine does_plain rfl fun K Q' hK => ?_
                    go_simp
                    refine (same6_any { ks := x1, kids := l1 } { ks := x2, kids := l2 } _ (ItV.ok_iff.2 ⟨SlC.nil _, (HO1.out.below hg).sl HX1.out, (HO1.out.below hg).ok⟩) (ItV.ok_iff.2 ⟨SlC.nil _, (HO2.out.below hg).sl HX2.out, (HO2.out.below hg).ok⟩)).mono ?_
                    rintro e u ⟨rfl, hb⟩
                    exact hK _ _ hb (congrArg Value.bool (sameI_yes (by rw [it_ks, it_ks, HEQ.out])))
                  -- 11: unOp UnOp.not 4 t167
                  · intro w1 hg Ar seen
                    obtain ⟨v10, e10, h10⟩ := seen.dep 10 (d := 167) (by kernel_rfl) (by kernel_rfl) rfl
                    rcases h10 with rfl
                    refine does_plain rfl fun K Q' hK => ?_
                    go_simp; exact hK _ _ (Grow.refl _) rfl
              intro w1 hg
              refine upon_w' (js := [0, 1, 2, 3, 4, 5, 6, 7, 8, 9, 10, 11]) (by rfl) ?_
              refine upon_c (x := some 157) (by kernel_rfl) rfl fun v0 h0 => ?_
              rcases h0 with rfl
              refine upon_c (x := some 158) (by kernel_rfl) rfl fun v1 h1 => ?_
              rcases h1 with rfl
              refine upon_c (x := some 159) (by kernel_rfl) rfl fun v2 h2 => ?_
              rcases h2 with rfl
              refine upon_c (x := some 160) (by kernel_rfl) rfl fun v3 h3 => ?_
              rcases h3 with rfl
              refine upon_c (x := some 161) (by kernel_rfl) rfl fun v4 h4 => ?_
              rcases h4 with rfl
              refine upon_c (x := some 162) (by kernel_rfl) rfl fun v5 h5 => ?_
              rcases h5 with rfl
              refine upon_c (x := some 163) (by kernel_rfl) rfl fun v6 h6 => ?_
              rcases h6 with rfl
              refine upon_c (x := some 164) (by kernel_rfl) rfl fun v7 h7 => ?_
              rcases h7 with rfl
              refine upon_c (x := some 165) (by kernel_rfl) rfl fun v8 h8 => ?_
              rcases h8 with rfl
              refine upon_c (x := some 166) (by kernel_rfl) rfl fun v9 h9 => ?_
              rcases h9 with rfl
              refine upon_c (x := some 167) (by kernel_rfl) rfl fun v10 h10 => ?_
              rcases h10 with rfl
              refine upon_c (x := some 168) (by kernel_rfl) rfl fun v11 h11 => ?_
              rcases h11 with rfl
              refine upon_n ?_
              go_simp
              have H9 := hid (And.intro (HR1.out.below hg) (And.intro (HR2.out.below hg) (And.intro (B.out.trans (hg.mono HBW.out)) (Nat.le_trans HBW.out hg.size))))
              clear hg HR1 HR2 B HBW C1 C2 HO1 HO2
              go_wp2_with fail
              go_roundw
              case rel =>
                first
                  | exact ⟨k + 1, by omega, by go_num, H9.out⟩
                  | ((repeat apply Exists.intro); exact ⟨⟨k + 1, by omega, by go_num, H9.out⟩, rfl⟩)
              case measure => simp [intOf]; omega
            · obtain rfl : k = n2 := by omega
              go_wp2_with fail
              go_ret
              exact ⟨rfl, B.out⟩
end Go.Proofs.Ytpcbofgjnbdfhaa
