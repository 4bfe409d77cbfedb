/- wal: commit. -/
import Derived.Test.YtipkeifpkemcdaaWalH
import Derived.Test.YtipkeifpkemcdaaWal4
namespace Go.Proofs.Ytipkeifpkemcdaa
open Go.RowKit
set_option linter.unusedVariables false
set_option linter.unusedSimpArgs false
set_option maxRecDepth 100000
set_option maxHeartbeats 6400000
theorem there_of {w : World} {b o n : Nat} {C : Array Value} {T : TypeId} (h : w.heap[b]? = some (.cells C T (0, 0))) (hn : o + n ≤ C.size) : w.there b o n := fun j hj => by
  refine ⟨?_, frozen_of_block h⟩
  rw [cell_of_block h (Array.getElem?_eq_getElem (by omega))]; rfl
/-- A struct stored within a block: the world behind it kept shut. -/
theorem wpList_store_part {P : Program} {w : World} {ops : Array Oper} {rest : List Oper} {op : Oper} {a : Act} {Q : Exit → Act → World → Prop} (hgd : op.guard = none) (ty : TypeId) (x y : Operand) (ho : op.op = .store ty x y)
    (p o : Nat) (cells : Array Value) (hx : a.eval x = .pointer (some ⟨p, o, none⟩)) (hy : a.eval y = .agg cells) {C : Array Value} {T : TypeId} (hg : w.heap[p]? = some (.cells C T (0, 0))) (hroom : o + cells.size ≤ C.size)
    (hi : (P.info? ty).map (·.size) = some cells.size) (h1 : cells.all (·.oneCell') = true) (C' : Array Value) (hC : setSeg C o cells.toList = C')
    (h : ∀ w', w'.heap[p]? = some (.cells C' T (0, 0)) → Chg [p] w w' → wpList P ops Q rest (a.put op.dst undef) w') : wpList P ops Q (op :: rest) a w :=
  wpList_store_mid hgd ty x y ho p o cells hx hy (there_of hg hroom) hi h1 (h _ (by rw [← hC]; exact setCells_block _ _ _ _ hg) (setCells_chg _ _ _ (Chg.refl _ _) (.inl (by simp))))
theorem mem_own' {v : Value} {k : Nat} : k ∈ v.ownBlock.toList ↔ v.ownBlock = some k := by simp
theorem FnR.one {w : World} {pl p : Nat} {P : Nat → Prop} {v : Value} {x : Wk} (h : FnR w pl p P v x) : v.oneCell' = true := by
  cases x with
  | fl => rw [show v = _ from h]; rfl
  | wr k d => obtain ⟨lc, kc, dc, a, c, e, -⟩ := h; rw [e]; rfl
theorem OwnF.one {w : World} {pl p B : Nat} {s : Sl} {vs : List Value} {xs : List Wk} (h : OwnF w pl p B s vs xs) : ∀ u ∈ vs, u.oneCell' = true := by
  intro u hu
  obtain ⟨k, hk⟩ := List.getElem?_of_mem hu
  have hlt := (List.getElem?_eq_some_iff.1 hk).1
  have hx : xs[k]? = some (xs[k]'(by have h1 := h.lx; have h2 := h.len; omega)) := List.getElem?_eq_getElem _
  exact (h.fn k u _ hk hx).one
/-- In a region: a row of such values. -/
def stOwnF (pl p B m lo : Nat) (xs : List Wk) : St Grow := ⟨fun v w => ∃ (s : Sl) (vs : List Value), v = .slice s.a s.n s.c ∧ s.n = m ∧ OwnF w pl p B s vs xs ∧ ∀ q, s.v.ownBlock = some q → lo ≤ q, fun v w w' h hg => let ⟨s, vs, e, h1, h2, h3⟩ := h; ⟨s, vs, e, h1, h2.below hg, h3⟩⟩
def stFn1 (u : Value) : St Grow := ⟨fun v w => ∃ q, v = .slice (some ⟨q, 0, none⟩) 1 1 ∧ w.heap[q]? = some (.cells #[u] 152 (0, 0)), fun v w w' h hg => let ⟨q, e, h1⟩ := h; ⟨q, e, (hg.block _ (block_lt h1)).trans h1⟩⟩
/-- The works of a commit. -/
def comW (at_ : Nat) (l : List UInt8) (m tq : Nat) (hb : List UInt8) : List Wk := secW at_ l m ++ [.fl] ++ secW tq hb 1 ++ [.fl]
theorem secW_fit {at_ m n : Nat} {l : List UInt8} (h : at_ + m ≤ n) : ∀ x ∈ secW at_ l m, x.fit n := fun x hx => by
  obtain ⟨k, hk, rfl⟩ := List.mem_map.1 hx
  have := List.mem_range.1 hk
  show at_ + k < n
  omega
theorem secW_len (at_ m : Nat) (l : List UInt8) : (secW at_ l m).length = m := by simp [secW]
theorem comW_len (at_ m tq : Nat) (l hb : List UInt8) : (comW at_ l m tq hb).length = m + 3 := by simp [comW, secW_len]
theorem comW_fit {at_ m tq n : Nat} {l hb : List UInt8} (h : at_ + m ≤ n) (h2 : tq + 1 ≤ n) : ∀ x ∈ comW at_ l m tq hb, x.fit n := fun x hx => by
  unfold comW at hx
  simp only [List.mem_append, List.mem_singleton] at hx
  rcases hx with ((hx | rfl) | hx) | rfl
  · exact secW_fit h x hx
  · trivial
  · exact secW_fit h2 x hx
  · trivial
theorem commit_any (pl p B at_ m : Nat) (a : Option Addr) (n c : Nat) (l : List UInt8) (e1 : Nat) (a1 u1 : Int) (e0 : Nat) (a0 u0 at0 : Int) (s : DSt) (F : List Nat) (w : World) (hr : RdB w a n l) (hno : a = none → c = 0) (hnc : n ≤ c) (hn : n = 64 * m) (hB : B ≤ w.heap.size) (ha : ∀ b off sp, a = some ⟨b, off, sp⟩ → B ≤ b ∧ b < w.heap.size)
    (he1 : e1 < 18446744073709551616) (hl : w.heap[pl]? = some (.cells (logArr p e0 a0 u0 at0 false) 118 (0, 0))) (h : Dk w p s F) (hF : ∀ q ∈ F, q < B) (hpF : pl ∉ F) (hpB : pl < B) (hat : at_ + m ≤ s.sec.length) (h2 : 2 ≤ s.sec.length) (hsl : s.sec.length ≤ 1099511627776) (hw : s.works + m + 3 < 4611686018427387904) (hpn : s.pend.length + m + 3 < 1099511627776)
    (tq : Nat) (htq : tq = if at0 = 0 then 1 else 0) (R : DSt × Bool) (hR : runW (comW at_ l m tq (headB e1 a1 u1)) s = R) :
    Calls Try.prog 89 #[.pointer (some ⟨pl, 0, none⟩), .int .i64 (at_ : Int), .slice a n c, .agg (headArr e1 a1 u1)] w fun e w' => e = .returned (.int .i64 (if R.2 = true then 0 else 9)) ∧ Chg (pl :: F) w w' ∧
      w'.heap[pl]? = some (.cells (if R.2 = true then logArr p e1 a1 u1 (tq : Int) false else logArr p e0 a0 u0 at0 true) 118 (0, 0)) ∧ ∃ F', Dk w' p R.1 F' ∧ Fresh F F' w := by
  obtain ⟨i, hi, hz0, hz1, hz2⟩ := info_parts fnInfo
  have HR := hid hr; have HNO := hid hno; have HNC := hid hnc; have HA := hid ha; have HN := hid hn; have HL := hid hl; have HD := hid h; have HF := hid hF
  have HRR := hid hR
  obtain ⟨rc, hrc⟩ : ∃ z : Int, (if R.2 = true then (0 : Int) else 9) = z := ⟨_, rfl⟩
  obtain ⟨LA, hla⟩ : ∃ A, (if R.2 = true then logArr p e1 a1 u1 (tq : Int) false else logArr p e0 a0 u0 at0 true) = A := ⟨_, rfl⟩
  rw [hrc, hla]
  have HRC := hid hrc; have HLA := hid hla
  obtain ⟨bx, hbx⟩ : ∃ b, b = w.heap.size := ⟨_, rfl⟩
  have h1 := block_new w (.cells (headArr e1 a1 u1) 116)
  have hb1 : Below w.heap.size w (w.alloc (.cells (headArr e1 a1 u1) 116)) := (Below.refl _ _).alloc (Nat.le_refl _) _
  have HBX := hid h1; have HB1 := hid hb1
  have HBE := hid hbx
  clear hr hno hnc ha hn hl h hF hrc hla h1 hb1 hR
  go_enter Try.func89, Try.ntmps89
  go_upto_region 2 with (fail)
  rw [← hbx] at HBX ⊢
  clear hbx
  generalize w.alloc (.cells (headArr e1 a1 u1) 116) = W at *
  have HL1 := hid ((HB1.out.block _ (block_lt HL.out)).trans HL.out)
  have hc4 : W.cell? ⟨pl, 4, none⟩ = some (.int .i64 at0) := cell_of_block (j := 4) HL1.out rfl
  go_upto_if 16 with (fail)
  go_cut [9] (fun v wx => v = .int .i64 (tq : Int) ∧ W = wx)
  case first =>
    by_cases h0 : at0 = 0
    · have h0b : (at0 == 0) = true := by simpa using h0
      rw [if_pos h0] at htq
      subst htq
      go_wp2_with fail
      go_meet
      exact ⟨rfl, rfl⟩
    · have h0b : (at0 == 0) = false := by simpa using h0
      rw [if_neg h0] at htq
      subst htq
      go_wp2_with fail
      go_meet
      exact ⟨rfl, rfl⟩
  case rest =>
    obtain ⟨rfl, hwc⟩ := hcut
    subst hwc
    have HTO : Hid (tq + 1 ≤ 2) := by show _ ≤ _; rw [htq]; split <;> decide
    clear htq
    go_upto_region 4 with (fail)
    refine wp_region_each 10 [.eq (.pointer (some ⟨pl, 0, none⟩)), .eq (.int .i64 (at_ : Int)), .eq (.slice a n c), stOwnF pl p B m W.heap.size (secW at_ l m), .eq (.pointer (some ⟨pl, 0, none⟩)), .eq (.pointer (some ⟨pl, 0, none⟩)), .eq (.pointer (some ⟨pl, 0, none⟩)), .eq (.pointer (some ⟨p, 0, none⟩)), .eq ((Value.func (.func 99) #[.pointer (some ⟨p, 0, none⟩)] #[])), stFn1 (Value.func (.func 99) #[.pointer (some ⟨p, 0, none⟩)] #[])] (by kernel_rfl) (by kernel_rfl) (by kernel_rfl) (by kernel_rfl) ?_ ?_
    · all_goals
        refine each_5 ?_ ?_ ?_ ?_ ?_ (each_5 ?_ ?_ ?_ ?_ ?_ (each_n))
        · intro w1 hg Ar seen
          have s0 := seen.sl 0 (.pointer (some ⟨pl, 0, none⟩))
          refine does_plain rfl fun K Q' hK => ?_
          go_simp; exact hK _ _ (Grow.refl _) rfl
        · intro w1 hg Ar seen
          have s1 := seen.sl 1 (.int .i64 (at_ : Int))
          refine does_plain rfl fun K Q' hK => ?_
          go_simp; exact hK _ _ (Grow.refl _) rfl
        · intro w1 hg Ar seen
          have s2 := seen.sl 2 (.slice a n c)
          refine does_plain rfl fun K Q' hK => ?_
          go_simp; exact hK _ _ (Grow.refl _) rfl
        · intro w1 hg Ar seen
          have e0 := seen.de 0 17
          obtain ⟨v1, e1, h1⟩ := seen.dp 1 18
          rcases h1 with rfl
          obtain ⟨v2, e2, h2⟩ := seen.dp 2 19
          rcases h2 with rfl
          refine does_plain rfl fun K Q' hK => ?_
          go_simp
          refine (sectorsF_any pl p B at_ m a n c l _ ((HR.out.below HB1.out).below hg) HNO.out HNC.out HN.out (by omega) (Nat.le_trans hB (Nat.le_trans HB1.out.size hg.size)) (fun b off sp e => by have h1 := HA.out b off sp e; have h2 := HB1.out.size; have h3 := hg.size; omega)).mono ?_
          rintro e u ⟨s1, vs1, rfl, h1, h2, hb, h3⟩
          exact hK _ _ hb ⟨s1, vs1, rfl, h1, h2, fun q hq => by have h4 := h3 q hq; have h5 := hg.size; omega⟩
        · intro w1 hg Ar seen
          have s0 := seen.sl 0 (.pointer (some ⟨pl, 0, none⟩))
          refine does_plain rfl fun K Q' hK => ?_
          go_simp; exact hK _ _ (Grow.refl _) rfl
        · intro w1 hg Ar seen
          have e4 := seen.de 4 21
          refine does_plain rfl fun K Q' hK => ?_
          go_simp; exact hK _ _ (Grow.refl _) rfl
        · intro w1 hg Ar seen
          have e5 := seen.de 5 22
          refine does_plain rfl fun K Q' hK => ?_
          go_simp; exact hK _ _ (Grow.refl _) rfl
        · intro w1 hg Ar seen
          have e6 := seen.de 6 23
          refine does_plain rfl fun K Q' hK => ?_
          have hc : w1.cell? ⟨pl, 0, none⟩ = some (.pointer (some ⟨p, 0, none⟩)) := cell_of_block (j := 0) ((hg.block _ (block_lt HL1.out)).trans HL1.out) rfl
          go_simp; exact hK _ _ (Grow.refl _) rfl
        · intro w1 hg Ar seen
          have e7 := seen.de 7 24
          refine does_plain rfl fun K Q' hK => ?_
          go_simp; exact hK _ _ (Grow.refl _) rfl
        · intro w1 hg Ar seen
          have e8 := seen.de 8 25
          refine does_plain rfl fun K Q' hK => ?_
          go_simp
          exact hK _ _ ((Below.refl _ _).alloc (Nat.le_refl _) _) ⟨_, rfl, block_new _ _⟩
    intro w1 hg
    refine upon_w' (js := [0, 1, 2, 3, 4, 5, 6, 7, 8, 9]) (by rfl) ?_
    refine upon_e (some 17) (upon_e (some 18) (upon_e (some 19) (upon_v (some 20) fun v3 h3 => upon_e (some 21) (upon_e (some 22) (upon_e (some 23) (upon_e (some 24) (upon_e (some 25) (upon_v (some 26) fun v9 h9 => upon_n ?_))))))))
    obtain ⟨⟨sa1, sn1, sc1⟩, vs1, rfl, hs1, hof, hlo⟩ := h3
    obtain ⟨q9, rfl, hq9⟩ := h9
    have hs1' : m = sn1 := hs1.symm
    subst hs1'
    clear hs1
    have hm40 : m ≤ 1099511627776 := by omega
    have HOF := hid hof; have HQ9 := hid hq9; have HNQ := hid hlo
    have HBXL := hid (block_lt HBX.out)
    have HK1 : Hid (Below W.heap.size W w1) := hg
    have HL2 := hid ((hg.block _ (block_lt HL1.out)).trans HL1.out)
    clear hg hof hlo hq9
    dsimp only
    go_simp
    have HBW : Hid (B ≤ W.heap.size) := Nat.le_trans hB HB1.out.size
    go_upto_region 5 with (at_builtin; go_must (refine wpList_append_c rfl _ _ 150 rfl B 152 i _ 1 8 Try.underlying150 hi hz0 hz1 hz2 rfl (by decide) (.slice sa1 (m) sc1) (m) _ rfl HOF.out.own _ 1 _ [(Value.func (.func 99) #[.pointer (some ⟨p, 0, none⟩)] #[])] rfl (RdC.of_block1 HQ9.out) (by intro u hu; rw [List.mem_singleton.1 hu]; rfl) (fun hx => by cases hx) (by unfold maxLen; omega) (by omega) (Nat.le_trans HBW.out HK1.out.size) ?_); intro aq cq w2 hown hgw hfr; have HOWN := hid hown; have HGRW := hid hgw; have HFRS := hid hfr; clear hown hgw hfr)
    have HO2 := hid (HOF.out.app (us := [(Value.func (.func 99) #[.pointer (some ⟨p, 0, none⟩)] #[])]) (ys := [.fl]) (Below.refl _ _) rfl (fun k v x h1 h2 => by
      cases k with
      | zero =>
        simp only [List.getElem?_cons_zero, Option.some.injEq] at h1 h2
        rw [← h1, ← h2]; rfl
      | succ k => simp at h1) rfl HOWN.out HGRW.out HFRS.out)
    have HK2 : Hid (Below W.heap.size W w2) := HK1.out.trans ((Chg.refl _ w1).grown HGRW.out (fun k hk => .inl (by rw [show (Sl.mk sa1 m sc1).v.ownBlock = some k from hk]; exact List.mem_singleton.2 rfl : k ∈ (Sl.mk sa1 m sc1).v.ownBlock.toList)) |>.below (fun q hq => HNQ.out q (mem_own'.1 hq)) HK1.out.size)
    have HNQ2 : Hid (∀ q, (Sl.mk aq (m + 1) cq).v.ownBlock = some q → W.heap.size ≤ q) := fun q hq => by
      rcases HFRS.out with h' | h'
      · exact HNQ.out q (by rw [← show _ = (Sl.mk sa1 m sc1).v.ownBlock from h']; exact hq)
      · exact Nat.le_trans HK1.out.size (h' q hq)
    clear HOWN HGRW HFRS HOF HNQ HK1 HL2 HQ9
    have HBX2 := hid ((HK2.out.block _ HBXL.out).trans HBX.out)
    go_wp2_with (refine wpList_load_row rfl 116 _ rfl bx rfl _ _ _ _ HBX2.out Try.underlying116 rfl hSize ?_)
    refine (headBytes_any e1 a1 u1 _ he1).mono ?_
    rintro e w3 ⟨ah, ch, rfl, hown, hb⟩
    dsimp only
    have HHB := hid hown; have HB3 := hid hb
    clear hown hb HBX2
    go_wp2_with fail
    refine (sectorsF_any pl p w2.heap.size tq 1 ah 64 ch (headB e1 a1 u1) _ (RdB.of_own HHB.out) (own_slice HHB.out).2.1 (own_slice HHB.out).1 rfl (by have := HTO.out; omega) HB3.out.size (fun b off sp e => own_at HHB.out b off sp e)).mono ?_
    rintro e w4 ⟨⟨sa2, sn2, sc2⟩, vs2, rfl, hs2, hof2, hb4, hlo2⟩
    have hs2' : 1 = sn2 := hs2.symm
    subst hs2'
    dsimp only
    have HB24 := hid (HB3.out.trans (hb4.mono HB3.out.size))
    have HOF2 := hid hof2
    have HK4 : Hid (Below W.heap.size W w4) := HK2.out.trans (HB24.out.mono HK2.out.size)
    have HO4 := hid (HO2.out.below HB24.out)
    have HOLT : Hid (∀ q, (Sl.mk aq (m + 1) cq).v.ownBlock = some q → q < w2.heap.size) := fun q hq => (HO2.out.own.lt q hq).2
    have HK2S := hid HK2.out.size
    clear hs2 hof2 hb4 hlo2 HHB HB3 HO2 HK2
    go_upto_region 6 with (at_builtin; go_must (refine wpList_append_c rfl _ _ 150 rfl B 152 i _ 1 8 Try.underlying150 hi hz0 hz1 hz2 rfl (by decide) (.slice aq (m + 1) cq) (m + 1) _ rfl HO4.out.own sa2 1 sc2 vs2 rfl (RdC.of_own HOF2.out.own) HOF2.out.one (own_slice HOF2.out.own).2.1 (by unfold maxLen; omega) (by omega) (Nat.le_trans HBW.out HK4.out.size) ?_); intro ar cr w5 hown hgw hfr; have HOWN := hid hown; have HGRW := hid hgw; have HFRS := hid hfr; clear hown hgw hfr)
    have HO5 := hid (HO4.out.app (us := vs2) (ys := secW tq (headB e1 a1 u1) 1) (Below.refl _ _) (by rw [HOF2.out.lx, HOF2.out.len]) (fun k v x h1 h2 => (HOF2.out.fn k v x h1 h2).wide (fun q hq => ⟨Nat.le_trans HBW.out (Nat.le_trans HK2S.out hq.1), hq.2.1, fun he => by have := HOLT.out q he; have := hq.1; omega⟩)) (by show m + 1 + 1 = m + 1 + vs2.length; rw [show vs2.length = 1 from HOF2.out.len]) HOWN.out HGRW.out HFRS.out)
    have HK5 : Hid (Below W.heap.size W w5) := HK4.out.trans ((Chg.refl _ w4).grown HGRW.out (fun k hk => .inl (by rw [show (Sl.mk aq (m + 1) cq).v.ownBlock = some k from hk]; exact List.mem_singleton.2 rfl : k ∈ (Sl.mk aq (m + 1) cq).v.ownBlock.toList)) |>.below (fun q hq => HNQ2.out q (mem_own'.1 hq)) HK4.out.size)
    have HNQ5 : Hid (∀ q, (Sl.mk ar (m + 1 + 1) cr).v.ownBlock = some q → W.heap.size ≤ q) := fun q hq => by
      rcases HFRS.out with h' | h'
      · exact HNQ2.out q (by rw [← show _ = (Sl.mk aq (m + 1) cq).v.ownBlock from h']; exact hq)
      · exact Nat.le_trans HK4.out.size (h' q hq)
    clear HOWN HGRW HFRS HO4 HNQ2 HK4 HOLT HOF2 HB24
    have HL5 := hid ((HK5.out.block _ (block_lt HL1.out)).trans HL1.out)
    have hc0 : w5.cell? ⟨pl, 0, none⟩ = some (.pointer (some ⟨p, 0, none⟩)) := cell_of_block (j := 0) HL5.out rfl
    go_wp2_with (at_builtin; go_must (refine wpList_append_c rfl _ _ 150 rfl B 152 i _ 1 8 Try.underlying150 hi hz0 hz1 hz2 rfl (by decide) (.slice ar (m + 1 + 1) cr) (m + 1 + 1) _ rfl (HO5.out.below ((Below.refl _ _).alloc (Nat.le_refl _) _)).own _ 1 _ [(Value.func (.func 99) #[.pointer (some ⟨p, 0, none⟩)] #[])] rfl (RdC.of_block1 (block_new w5 _)) (by intro u hu; rw [List.mem_singleton.1 hu]; rfl) (fun hx => by cases hx) (by unfold maxLen; omega) (by omega) (by have h1 := HBW.out; have h2 := HK5.out.size; simp; omega) ?_); intro as_ cs w6 hown hgw hfr; have HOWN := hid hown; have HGRW := hid hgw; have HFRS := hid hfr; clear hown hgw hfr)
    have hb56 : Below w5.heap.size w5 (w5.alloc (.cells #[(Value.func (.func 99) #[.pointer (some ⟨p, 0, none⟩)] #[])] 152)) := (Below.refl _ _).alloc (Nat.le_refl _) _
    have HO6 := hid (HO5.out.app (us := [(Value.func (.func 99) #[.pointer (some ⟨p, 0, none⟩)] #[])]) (ys := [.fl]) hb56 rfl (fun k v x h1 h2 => by
      cases k with
      | zero =>
        simp only [List.getElem?_cons_zero, Option.some.injEq] at h1 h2
        rw [← h1, ← h2]; rfl
      | succ k => simp at h1) rfl HOWN.out HGRW.out HFRS.out)
    have HK6 : Hid (Below W.heap.size W w6) := HK5.out.trans (((Chg.of_below hb56 _).grown HGRW.out (fun k hk => .inl (by rw [show (Sl.mk ar (m + 1 + 1) cr).v.ownBlock = some k from hk]; exact List.mem_singleton.2 rfl : k ∈ (Sl.mk ar (m + 1 + 1) cr).v.ownBlock.toList))).below (fun q hq => HNQ5.out q (mem_own'.1 hq)) HK5.out.size)
    clear hb56 HOWN HGRW HFRS HO5 HNQ5 HK5 HL5 hc0
    have HL6 := hid ((HK6.out.block _ (block_lt HL1.out)).trans HL1.out)
    have HD6 := hid ((HD.out.below HB1.out).below HK6.out)
    have HBX6 := hid ((HK6.out.block _ HBXL.out).trans HBX.out)
    have HBXG : Hid (B ≤ bx) := by show B ≤ bx; rw [HBE.out]; exact hB
    have HFNS : Hid (FnsR w6 pl p (fun q => B ≤ q ∧ q < w6.heap.size) as_ (m + 1 + 1 + 1) (vs1 ++ [(Value.func (.func 99) #[.pointer (some ⟨p, 0, none⟩)] #[])] ++ vs2 ++ [(Value.func (.func 99) #[.pointer (some ⟨p, 0, none⟩)] #[])]) (comW at_ l m tq (headB e1 a1 u1))) := by
      refine ⟨by have h := RdC.of_own HO6.out.own; rwa [Nat.mul_one] at h, comW_len _ _ _ _ _, fun b off sp e => own_at HO6.out.own b off sp e, fun k v x h1 h2 => (HO6.out.fn k v x h1 h2).wide (fun q hq => ⟨hq.1, hq.2.1⟩)⟩
    have HW6 : Hid (Below w.heap.size w w6) := HB1.out.trans (HK6.out.mono HB1.out.size)
    clear HO6 HK6 HD HL HL1 HBX HBXL HB1 HA HR
    refine (logWorks_any pl p (fun q => B ≤ q ∧ q < w6.heap.size) (comW at_ l m tq (headB e1 a1 u1)) _ as_ (m + 1 + 1 + 1) cs s F e0 a0 u0 at0 w6 HFNS.out (fun q hq hm => by have := HF.out q hm; omega) (fun q hq => hq.2) hpF HL6.out HD6.out (comW_fit hat (Nat.le_trans HTO.out h2)) (by omega) (by omega)).mono ?_
    rw [HRR.out, HRC.out]
    rintro e w7 ⟨rfl, hch, hlog, F', hd', hfr⟩
    dsimp only
    have HCH : Hid (Chg (pl :: F) w w7) := (Chg.of_below HW6.out _).trans hch (fun q hq => .inl hq)
    have HLG := hid hlog; have HD7 := hid hd'
    have HFR : Hid (Fresh F F' w) := fun q hq => by
      rcases hfr q hq with h' | h'
      · exact .inl h'
      · exact .inr (Nat.le_trans HW6.out.size h')
    have HBX7 := hid ((hch.block bx (block_lt HBX6.out) (fun hm => by
      have h1 := HBXG.out
      rcases List.mem_cons.1 hm with h' | h'
      · omega
      · have := HF.out bx h'; omega)).trans HBX6.out)
    have HPF' : Hid (pl ∉ F') := fun hm => by
      rcases HFR.out pl hm with h' | h'
      · exact hpF h'
      · omega
    clear hch hlog hd' hfr HFNS HL6 HD6 HBX6
    cases hok : R.2 with
    | false =>
      have hrc := HRC.out
      have hla := HLA.out
      rw [hok] at hrc hla HLG
      obtain rfl : (9 : Int) = rc := hrc
      have hla' : logArr p e0 a0 u0 at0 true = LA := hla
      subst hla'
      go_wp2_with fail
      go_ret
      exact ⟨rfl, HCH.out, HLG.out, F', HD7.out, HFR.out⟩
    | true =>
      have hrc := HRC.out
      have hla := HLA.out
      rw [hok] at hrc hla HLG
      obtain rfl : (0 : Int) = rc := hrc
      have hla' : logArr p e1 a1 u1 (tq : Int) false = LA := hla
      subst hla'
      clear hla hok HRC HLA
      have HLG' : Hid (w7.heap[pl]? = some (.cells (logArr p e0 a0 u0 at0 false) 118 (0, 0))) := HLG.out
      go_wp2_with (first | (refine wpList_load_row rfl 116 _ rfl bx rfl _ _ _ _ HBX7.out Try.underlying116 rfl hSize ?_) | (refine wpList_store_part rfl 116 _ _ rfl pl 1 (headArr e1 a1 u1) rfl rfl HLG'.out (show 1 + 3 ≤ 6 by decide) hSize (headArr_one _ _ _) (logArr p e1 a1 u1 at0 false) rfl ?_; intro w8 hb8 hc8; have HB8 := hid hb8; have HC8 := hid hc8; have hco : w8.cell? ⟨pl, 4, none⟩ = some (.int .i64 at0) := cell_of_block (j := 4) HB8.out rfl; have hfz : ∀ j, w8.frozen? ⟨pl, j, none⟩ = false := (fun j => frozen_of_block HB8.out); clear hb8 hc8))
      go_ret
      have hset : Chg [pl] w8 (w8.setCell ⟨pl, 4, none⟩ (.int .i64 (tq : Int))) := (Chg.refl [pl] w8).setCell (.inl (by simp)) _
      have hd2 : Disj F' [pl] := fun q hq hm => HPF'.out (by rw [← List.mem_singleton.1 hm]; exact hq)
      refine ⟨rfl, (HCH.out.trans HC8.out (fun q hq => .inl (by rw [List.mem_singleton.1 hq]; simp))).trans hset (fun q hq => .inl (by rw [List.mem_singleton.1 hq]; simp)), block_setCell (j := 4) HB8.out _, F', (HD7.out.keep HC8.out hd2).keep hset hd2, HFR.out⟩
end Go.Proofs.Ytipkeifpkemcdaa
