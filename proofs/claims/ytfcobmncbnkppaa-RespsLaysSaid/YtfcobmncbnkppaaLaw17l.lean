/- RespsLays: the walk. -/
import Derived.Test.YtfcobmncbnkppaaRefResp
import Derived.Test.YtfcobmncbnkppaaRespOf
import Derived.Test.YtfcobmncbnkppaaRsp8
import Derived.Test.YtfcobmncbnkppaaRsp10
import Derived.Test.YtfcobmncbnkppaaRsp12
namespace Go.Proofs.Ytfcobmncbnkppaa
open Go.RowKit
set_option linter.unusedVariables false
set_option linter.unusedSimpArgs false
set_option maxRecDepth 100000
set_option maxHeartbeats 4000000
theorem itm_set (l : List ItV) (k : Nat) (y x : ItV) (hx : l[k]? = some x) (j : Nat) (u : Value) (hj : j < 5) (hy : y.cells = x.cells.set j u) : itmCells (l.set k y) = (itmCells l).set (k * 5 + j) u := by
  induction l generalizing k with
  | nil => simp at hx
  | cons v r ih =>
    have hlen : ∀ z : ItV, z.cells.length = 5 := fun z => rfl
    cases k with
    | zero =>
      simp only [List.getElem?_cons_zero, Option.some.injEq] at hx
      subst hx
      simp only [List.set_cons_zero, itmCells, List.flatMap_cons, Nat.zero_mul, Nat.zero_add, hy]
      rw [List.set_append_left _ _ (by rw [hlen]; exact hj)]
    | succ k =>
      simp only [List.getElem?_cons_succ] at hx
      have := ih k hx
      simp only [List.set_cons_succ, itmCells, List.flatMap_cons]
      unfold itmCells at this
      rw [this, List.set_append_right _ _ (by rw [hlen]; omega), hlen]
      congr 2; omega
/-- What stands of the altered answer while RespsLays goes on. -/
structure Alt (b : Nat) (w W : World) (pi ph : Nat) (vi vh : ItV) : Prop where
  hi : W.heap[pi]? = some (.cells vi.arr 27 (0, 0))
  hh : W.heap[ph]? = some (.cells vh.arr 27 (0, 0))
  oki : vi.ok W
  okh : vh.ok W
  ni : vi.ks.n ≤ 1000
  fi : ∀ k ∈ vi.foot, k ≠ pi
  fh : ∀ k ∈ vh.foot, k ≠ pi
  bel : Below b w W
theorem alt_mk {b : Nat} {w W : World} {pi ph : Nat} {vi k0 : ItV} {s : Sl} {l : List ItV} (hi : W.heap[pi]? = some (.cells vi.arr 27 (0, 0))) (hh : W.heap[ph]? = some (.cells (ItV.arr { k0 with ks := s, kids := l }) 27 (0, 0))) (oki : vi.ok W) (ni : vi.ks.n ≤ 1000) (fi : ∀ k ∈ vi.foot, k ≠ pi)
    (hb : Below b w W) (hkd : SlC W k0.ds (k0.data.map B8)) (hkdf : ∀ k ∈ k0.ds.blk, k < pi) (hks : SlR W s 5 (itmCells l)) (hkb : ∀ k ∈ s.blk, ph < k) (hpp : pi < ph) (hke : ∀ x ∈ l, x.ok W) (hkf : ∀ x ∈ l, ∀ k ∈ x.foot, k < pi) : ∃ vi vh : ItV, Alt b w W pi ph vi vh :=
  ⟨vi, { k0 with ks := s, kids := l }, hi, hh, oki, ItV.ok_iff.2 ⟨hkd, hks, hke⟩, ni, fi, fun k hk => by
    rcases ItV.mem_foot.1 hk with h | h | ⟨x, hx, h⟩
    · have := hkdf k h; omega
    · have := hkb k h; omega
    · have := hkf x hx k h; omega, hb⟩
theorem ok_same {W : World} {x : ItV} (t y i : Int) (h : x.ok W) : ItV.ok W { x with tag := t, typ := y, int := i } := (ItV.ok_iff (v := { x with tag := t, typ := y, int := i })).2 ((ItV.ok_iff (v := x)).1 h)
theorem foot_same {x : ItV} (t y i : Int) {k : Nat} (h : k ∈ ItV.foot { x with tag := t, typ := y, int := i }) : k ∈ x.foot := (ItV.mem_foot (v := x)).2 ((ItV.mem_foot (v := { x with tag := t, typ := y, int := i })).1 h)
def stOwnV (y : ItV) (z : Nat) : St Grow := ⟨fun v w => ∃ s : Sl, v = .slice s.a s.n s.c ∧ s.n = 1 ∧ OwnIt 27 w z 0 s [y], fun v w w' h hg => let ⟨s, e, hn, ho⟩ := h; ⟨s, e, hn, ho.below hg⟩⟩
theorem rdC_drop {w : World} {a : Option Addr} {n c : Nat} {xs : List Value} (h : RdC w a (n * 5) xs) (hnc : n ≤ c) : RdC w (if c = 1 then a else a.map (·.add (1 * 5))) ((n - 1) * 5) (xs.drop 5) :=
  ⟨by rw [List.length_drop, h.len]; omega, fun j hj => by
    have hc1 : c ≠ 1 := by omega
    obtain ⟨b, off, ha, hc⟩ := h.cell 0 (by omega)
    refine ⟨b, off + 5, ?_, fun i u hu => ?_⟩
    · rw [if_neg hc1, ha]; simp [Addr.add]
    · rw [List.getElem?_drop] at hu
      have := hc (5 + i) u hu
      rwa [← Nat.add_assoc] at this⟩
theorem itm_drop1 (l : List ItV) : (itmCells l).drop 5 = itmCells (l.drop 1) := by
  cases l with
  | nil => rfl
  | cons x r => rfl
def outQ : Except Int Rs → Rs
  | .error _ => RsV.rq {}
  | .ok q => q
def outC : Except Int Rs → Int
  | .error c => c
  | .ok _ => 0
theorem rs_out {r : Except Int Rs} {w : World} {e : Ending} {w' : World} (h : RsRead r w e w') : ∃ (q : RsV) (c : Int), e = .returned (.tuple #[.agg q.arr, .int .i64 c]) ∧ q.ok w' ∧ Below w.heap.size w w' ∧ q.rq = outQ r ∧ c = outC r := by
  cases r with
  | error c => obtain ⟨h1, h2⟩ := h; exact ⟨{}, c, h1, ⟨SlR.nil _ _, fun x hx => by cases hx⟩, h2, rfl, rfl⟩
  | ok q => obtain ⟨v, h1, h2, h3, h4⟩ := h; exact ⟨v, 0, h1, h3, h4, h2, rfl⟩
theorem build0 (w : World) : (Instr.buildSlice 25 0 #[]).run Try.prog w = .ok (.slice (some ⟨w.heap.size, 0, none⟩) 0 0) (w.alloc (.cells #[] 27)) := by kernel_rfl
theorem respsLays_walk (tm : Int) (l : List RwD) (a : Option Addr) (n c : Nat) (how : Int) (lo : List RawD) (ao : Option Addr) (no co : Nat) (w : World) (hal : RwArgs w a n l) (hao : ArgSl 4 RawR w (.slice ao no co) lo) :
    Calls Try.prog 3 #[.int .i64 tm, .slice a n c, .int .i64 how, .slice ao no co] w fun e w' => e = .returned (.bool true) ∧ Below w.heap.size w w' := by
  obtain ⟨i, hi, hz0, hz1, hz2⟩ := info_parts iInfo
  have HAL := hid hal; have HAO := hid hao
  clear hal hao
  generalize hbe : w.heap.size = b
  have HBE := hid hbe; clear hbe
  go_enter Try.func3, Try.ntmps3
  go_wp2_with fail
  refine (handItem_any lo ao no co _ HAO.out).mono ?_
  rintro e w1 ⟨v, rfl, -, hvo, -, hb1, hv8⟩
  have HVO := hid hvo; have HV8 := hid hv8
  have HZ1 : Hid (b ≤ w1.heap.size) := by show b ≤ _; rw [← HBE.out]; exact hb1.size
  rw [HBE.out] at hb1
  have HBW1 := hid hb1
  clear hvo hv8 hb1
  go_upto_region 2 with (first | (refine wpList_alloc_obj rfl 27 rfl _ iZero ?_) | (refine wpList_store_obj rfl 27 _ _ rfl w1.heap.size rfl v.arr rfl _ _ (block_new w1 _) rfl iSize (arr_one _) ?_; intro w2 hb2 hc2 hs2; have HB_w2 := hid hb2; have HC_w2 := hid hc2; clear hb2 hc2 hs2))
  go_simp
  have hbel : Below w1.heap.size w1 w2 := ((Below.refl _ w1).alloc (Nat.le_refl _) _).trans (HC_w2.out.below (fun k hk => by rw [List.mem_singleton.1 hk]; exact Nat.le_refl _) (by simp))
  have HVO2 := hid (HVO.out.below hbel)
  have HVF : Hid (∀ k ∈ v.foot, k < w1.heap.size) := HVO.out.lt
  have HBW2 := hid (HBW1.out.trans (hbel.mono HZ1.out))
  have HAL2 := hid (HAL.out.below (show Below w.heap.size w w2 by rw [HBE.out]; exact HBW2.out))
  have HZ2 : Hid (b ≤ w2.heap.size) := Nat.le_trans HZ1.out hbel.size
  clear hbel HC_w2 HVO HBW1 HAL HAO
  obtain ⟨pv, hpv⟩ : ∃ q, q = w1.heap.size := ⟨_, rfl⟩
  have HPVB : Hid (b ≤ pv) := by show b ≤ pv; rw [hpv]; exact HZ1.out
  rw [← hpv] at HB_w2 HVF ⊢
  clear hpv HZ1
  go_wp2_with fail
  refine (response_any tm l a n c _ HAL2.out).mono ?_
  rintro e w3 ⟨r, rfl, hro, hrn, hrm, hb3⟩
  have HRO := hid hro; have HRN := hid hrn; have HRM := hid hrm
  have HB3 := hid ((hb3.block _ (block_lt HB_w2.out)).trans HB_w2.out)
  have HVO3 := hid (HVO2.out.below hb3)
  have HBW3 := hid (HBW2.out.trans (hb3.mono HZ2.out))
  have HZ3 : Hid (b ≤ w3.heap.size) := Nat.le_trans HZ2.out hb3.size
  have HPV3 : Hid (pv < w3.heap.size) := block_lt HB3.out
  clear hro hrn hrm hb3 HB_w2 HVO2 HBW2 HAL2 HZ2
  go_upto_region 3 with (first | (refine wpList_alloc_obj rfl 31 rfl _ pZero ?_) | (refine wpList_store_obj rfl 31 _ _ rfl w3.heap.size rfl r.arr rfl _ _ (block_new w3 _) rfl pSize (parr_one _) ?_; intro w4 hb2 hc2 hs2; have HB_w4 := hid hb2; have HC_w4 := hid hc2; clear hb2 hc2 hs2))
  go_simp
  have hbel : Below w3.heap.size w3 w4 := ((Below.refl _ w3).alloc (Nat.le_refl _) _).trans (HC_w4.out.below (fun k hk => by rw [List.mem_singleton.1 hk]; exact Nat.le_refl _) (by simp))
  have HB4 := hid ((hbel.block _ (block_lt HB3.out)).trans HB3.out)
  have HVO4 := hid (HVO3.out.below hbel)
  have HRO4 := hid (HRO.out.below hbel)
  have HBW4 := hid (HBW3.out.trans (hbel.mono HZ3.out))
  have HZ4 : Hid (b ≤ w4.heap.size) := Nat.le_trans HZ3.out hbel.size
  clear hbel HC_w4 HB3 HVO3 HRO HBW3
  obtain ⟨pr, hpr⟩ : ∃ q, q = w3.heap.size := ⟨_, rfl⟩
  have HPR : Hid (pv < pr) := by show pv < pr; rw [hpr]; exact HPV3.out
  rw [← hpr] at HB_w4 ⊢
  clear hpr HPV3 HZ3
  go_wp2_with (refine wpList_load_row rfl 31 _ rfl pr rfl _ _ _ _ HB_w4.out Try.underlying31 rfl pSize ?_)
  refine (layResponse_any r _ HRO4.out (Nat.le_trans HRN.out (by decide)) (fun x hx => Nat.le_trans (HRM.out x hx) (by decide))).mono ?_
  rintro e w5 ⟨y, rfl, hyi, hyo, hb5⟩
  have HYI := hid hyi; have HYO := hid hyo
  have HB5 := hid ((hb5.block _ (block_lt HB4.out)).trans HB4.out)
  have HR5 := hid ((hb5.block _ (block_lt HB_w4.out)).trans HB_w4.out)
  have HVO5 := hid (HVO4.out.below hb5)
  have HRO5 := hid (HRO4.out.below hb5)
  have HBW5 := hid (HBW4.out.trans (hb5.mono HZ4.out))
  have HZ5 : Hid (b ≤ w5.heap.size) := Nat.le_trans HZ4.out hb5.size
  clear hyi hyo hb5 HB4 HB_w4 HVO4 HRO4 HBW4 HZ4
  have HYF : Hid (∀ k ∈ y.foot, k < w5.heap.size) := HYO.out.lt
  go_upto_region 4 with (first | (refine wpList_alloc_obj rfl 27 rfl _ iZero ?_) | (refine wpList_store_obj rfl 27 _ _ rfl w5.heap.size rfl y.arr rfl _ _ (block_new w5 _) rfl iSize (arr_one _) ?_; intro w6 hb2 hc2 hs2; have HB_w6 := hid hb2; have HC_w6 := hid hc2; clear hb2 hc2 hs2))
  go_simp
  have hbel : Below w5.heap.size w5 w6 := ((Below.refl _ w5).alloc (Nat.le_refl _) _).trans (HC_w6.out.below (fun k hk => by rw [List.mem_singleton.1 hk]; exact Nat.le_refl _) (by simp))
  have HB6 := hid ((hbel.block _ (block_lt HB5.out)).trans HB5.out)
  have HR6 := hid ((hbel.block _ (block_lt HR5.out)).trans HR5.out)
  have HVO6 := hid (HVO5.out.below hbel)
  have HRO6 := hid (HRO5.out.below hbel)
  have HYO6 := hid (HYO.out.below hbel)
  have HBW6 := hid (HBW5.out.trans (hbel.mono HZ5.out))
  have HZ6 : Hid (b ≤ w6.heap.size) := Nat.le_trans HZ5.out hbel.size
  have HPR5 : Hid (pr < w5.heap.size) := block_lt HR5.out
  clear hbel HC_w6 HB5 HR5 HVO5 HRO5 HYO HBW5
  obtain ⟨pi, hpi⟩ : ∃ q, q = w5.heap.size := ⟨_, rfl⟩
  rw [← hpi] at HB_w6 HYF HPR5 HZ5 ⊢
  clear hpi
  refine wp_region_each 5 [.eq (.agg r.arr), stMade (layRs r.rq), .eq (.agg y.arr), .eq (.bool true), .eq (.bool false)] (by kernel_rfl) (by kernel_rfl) (by kernel_rfl) (by kernel_rfl) ?_ ?_
  · as_aux_lemma =>
      refine each_c (o' := _) ?_ (each_c (o' := _) ?_ (each_c (o' := _) ?_ (each_c (o' := _) ?_ (each_c (o' := _) ?_ (each_n)))))
      -- 0: load 31 t10
      · intro w1 hg Ar seen
        have s10 := seen.slot 10 (v := .pointer (some ⟨pr, 0, none⟩)) (by kernel_rfl) rfl
        refine does_plain rfl fun K Q' hK => ?_
        refine wp_load_row 31 _ rfl pr (by simp [Act.eval, s10]) _ _ _ _ ((hg.block _ (block_lt HR6.out)).trans HR6.out) Try.underlying31 rfl pSize ?_
        exact hK _ _ (Grow.refl _) rfl
      -- 1: call fn9<resps.Lay> [t24] T[31]
      · intro w1 hg Ar seen
        obtain ⟨v0, e0, h0⟩ := seen.dep 0 (d := 24) (by kernel_rfl) (by kernel_rfl) rfl
        rcases h0 with rfl
        refine does_plain rfl fun K Q' hK => ?_
        go_simp
        refine (rLay_any r _ (HRO6.out.below hg) (fun x hx => Nat.le_trans (HRM.out x hx) (by decide)) (Nat.le_trans HRN.out (by decide))).mono ?_
        rintro e u ⟨x, rfl, h1, h2, -, hb⟩
        exact hK _ _ hb ⟨x, rfl, h1, h2⟩
      -- 2: load 27 t11
      · intro w1 hg Ar seen
        have s11 := seen.slot 11 (v := .pointer (some ⟨pi, 0, none⟩)) (by kernel_rfl) rfl
        refine does_plain rfl fun K Q' hK => ?_
        refine wp_load_row 27 _ rfl pi (by simp [Act.eval, s11]) _ _ _ _ ((hg.block _ (block_lt HB_w6.out)).trans HB_w6.out) Try.underlying27 rfl iSize ?_
        exact hK _ _ (Grow.refl _) rfl
      -- 3: call fn8<locksmithref6.Same> [t25, t26] T[27, 27]
      · intro w1 hg Ar seen
        obtain ⟨v1, e1, h1⟩ := seen.dep 1 (d := 25) (by kernel_rfl) (by kernel_rfl) rfl
        obtain ⟨v2, e2, h2⟩ := seen.dep 2 (d := 26) (by kernel_rfl) (by kernel_rfl) rfl
        rcases h2 with rfl
        refine does_plain rfl fun K Q' hK => ?_
        obtain ⟨x, rfl, h1, h2⟩ := h1
        go_simp
        refine (same6_any x y _ h2 (HYO6.out.below hg)).mono ?_
        rintro e u ⟨rfl, hb⟩
        exact hK _ _ hb (congrArg Value.bool (sameI_yes (h1.trans HYI.out.symm)))
      -- 4: unOp UnOp.not 4 t27
      · intro w1 hg Ar seen
        obtain ⟨v3, e3, h3⟩ := seen.dep 3 (d := 27) (by kernel_rfl) (by kernel_rfl) rfl
        rcases h3 with rfl
        refine does_plain rfl fun K Q' hK => ?_
        go_simp; exact hK _ _ (Grow.refl _) rfl
  intro w1 hg
  refine upon_w' (js := [0, 1, 2, 3, 4]) (by rfl) ?_
  refine upon_c (x := some 24) (by kernel_rfl) rfl fun v0 h0 => ?_
  rcases h0 with rfl
  refine upon_c (x := some 25) (by kernel_rfl) rfl fun v1 h1 => ?_
  refine upon_c (x := some 26) (by kernel_rfl) rfl fun v2 h2 => ?_
  rcases h2 with rfl
  refine upon_c (x := some 27) (by kernel_rfl) rfl fun v3 h3 => ?_
  rcases h3 with rfl
  refine upon_c (x := some 28) (by kernel_rfl) rfl fun v4 h4 => ?_
  rcases h4 with rfl
  refine upon_n ?_
  go_simp
  have HB7 := hid ((hg.block _ (block_lt HB6.out)).trans HB6.out)
  have HI7 := hid ((hg.block _ (block_lt HB_w6.out)).trans HB_w6.out)
  have HVO7 := hid (HVO6.out.below hg)
  have HYO7 := hid (HYO6.out.below hg)
  have HBW7 := hid (HBW6.out.trans (hg.mono HZ6.out))
  have HPI : Hid (pi < w1.heap.size) := Nat.lt_of_lt_of_le (block_lt HB_w6.out) hg.size
  clear hg h1 HB6 HB_w6 HVO6 HYO6 HBW6 HZ6 HR6
  go_simp
  go_upto_region 6 with (fail)
  have hitk : y.it.kids = y.kids.map ItV.it := by rw [ItV.it_eq]
  have hyk : y.kids.map ItV.it = layRsHead r.rq.time (r.rq.items.length : Int) :: r.rq.items.map layRsI := by rw [← hitk, HYI.out]; rfl
  have hyn : y.kids.length ≤ 9 := by have h := congrArg List.length hyk; have h2 := HRO6.out.its.rslen; have h3 := HRN.out; simp [RsV.rq] at h; omega
  obtain ⟨k0, rest, hkk⟩ : ∃ k0 rest, y.kids = k0 :: rest := by
    cases hq : y.kids with
    | nil => rw [hq] at hyk; cases hyk
    | cons x r => exact ⟨x, r, rfl⟩
  have hk0 : k0.it = layRsHead r.rq.time (r.rq.items.length : Int) := by rw [hkk] at hyk; exact (List.cons.inj hyk).1
  have hk3 : k0.kids.length = 3 := by
    have h : k0.it.kids = k0.kids.map ItV.it := by rw [ItV.it_eq]
    have h2 := congrArg List.length h
    rw [hk0] at h2
    simpa [layRsHead, ofI] using h2.symm
  obtain ⟨oky1, oky2, oky3⟩ := ItV.ok_iff.1 HYO7.out
  have HK0 := hid (oky3 k0 (by rw [hkk]; simp))
  have HN0 : Hid (y.ks.n ≤ 9) := by show _ ≤ _; rw [← oky2.klen]; exact hyn
  have hpos : 0 < y.ks.n := by rw [← oky2.klen, hkk]; simp
  obtain ⟨bx, ox, k0', hax, hx0, hrow⟩ := oky2.row (k := 0) hpos
  have hk' : k0' = k0 := by rw [hkk] at hx0; simpa using hx0.symm
  rw [hk'] at hrow
  have HROW := hid hrow
  have HK0F : Hid (∀ k ∈ k0.foot, k < pi) := fun k hk => HYF.out k (ItV.mem_foot.2 (.inr (.inr ⟨k0, by rw [hkk]; simp, hk⟩)))
  have hks3 : k0.ks.n = 3 := by rw [← hk3]; exact (ItV.ok_iff.1 HK0.out).2.1.klen.symm
  have HKS3 := hid hks3; have HK3 := hid hk3
  have c4 : w1.cell? ⟨pi, 4, none⟩ = some (.slice (some ⟨bx, ox, none⟩) y.ks.n y.ks.c) := by rw [← hax]; exact cell_of_block (j := 4) HI7.out (ar4 y)
  clear hitk hyk hyn hkk hk0 hk3 oky1 oky2 oky3 hax hx0 hrow hk' hks3 HRO6 HRN HRM
  go_upto_region 7 with (first | (refine wpList_load_mid rfl 27 _ rfl bx _ rfl k0.arr.toList _ HROW.out Try.underlying27 rfl iSize ?_; simp only [Array.toArray_toList]) | (refine wpList_alloc_obj rfl 27 rfl _ iZero ?_) | (refine wpList_store_obj rfl 27 _ _ rfl w1.heap.size rfl k0.arr rfl _ _ (block_new w1 _) rfl iSize (arr_one _) ?_; intro w8 hb2 hc2 hs2; have HB_w8 := hid hb2; have HC_w8 := hid hc2; clear hb2 hc2 hs2))
  go_simp
  clear c4 hpos
  have hbel : Below w1.heap.size w1 w8 := ((Below.refl _ w1).alloc (Nat.le_refl _) _).trans (HC_w8.out.below (fun k hk => by rw [List.mem_singleton.1 hk]; exact Nat.le_refl _) (by simp))
  have HV8' := hid ((hbel.block _ (block_lt HB7.out)).trans HB7.out)
  have HI8 := hid ((hbel.block _ (block_lt HI7.out)).trans HI7.out)
  have HVO8 := hid (HVO7.out.below hbel)
  have HYO8 := hid (HYO7.out.below hbel)
  have HK8 := hid (HK0.out.below hbel)
  have HZ7 : Hid (b ≤ w1.heap.size) := by show _ ≤ _; have h1 := HPI.out; have h2 := HZ5.out; omega
  have HBW8 := hid (HBW7.out.trans (hbel.mono HZ7.out))
  have HZ8 : Hid (b ≤ w8.heap.size) := Nat.le_trans HZ7.out hbel.size
  clear hbel HC_w8 HB7 HI7 HVO7 HYO7 HK0 HBW7 HROW
  obtain ⟨ph, hph⟩ : ∃ q, q = w1.heap.size := ⟨_, rfl⟩
  rw [← hph] at HB_w8 HPI HZ7 ⊢
  clear hph
  obtain ⟨z, hz⟩ : ∃ q, q = w8.heap.size := ⟨_, rfl⟩
  have HZ := hid hz
  have HPHZ : Hid (ph < z) := by show ph < z; rw [hz]; exact block_lt HB_w8.out
  clear hz
  obtain ⟨k1, k2, k3⟩ := ItV.ok_iff.1 HK8.out
  have HKS := hid k2; have HKD := hid k1; have HKE := hid k3
  clear k1 k2 k3
  have ch4 : w8.cell? ⟨ph, 4, none⟩ = some (.slice k0.ks.a 3 k0.ks.c) := by rw [← HKS3.out]; exact cell_of_block (j := 4) HB_w8.out (ar4 k0)
  have hb0 := build0
  have ch4' : (w8.alloc (.cells #[] 27)).cell? ⟨ph, 4, none⟩ = some (.slice k0.ks.a 3 k0.ks.c) := by
    have hbe : Below w8.heap.size w8 (w8.alloc (.cells #[] 27)) := (Below.refl _ _).alloc (Nat.le_refl _) _
    exact cell_later hbe ch4
  have RDK : Hid (RdC (w8.alloc (.cells #[] 27)) k0.ks.a (3 * 5) (itmCells k0.kids)) := by
    have h := (HKS.out.below ((Below.refl _ _).alloc (Nat.le_refl _) (.cells #[] 27))).rd
    rw [HKS3.out] at h
    exact h
  go_upto_region 8 with (at_builtin; go_must (refine wpList_append_c rfl _ _ 25 rfl z 27 i _ 5 72 Try.underlying25 hi hz0 hz1 hz2 rfl (by decide) (.slice (some ⟨w8.heap.size, 0, none⟩) 0 0) 0 [] rfl (own_built (C := #[]) (n := 0) (Nat.le_of_eq HZ.out) rfl (by decide)) _ 3 _ (itmCells k0.kids) rfl RDK.out (itm_one _) HKS.out.no (by decide) (by decide) (by have := HZ.out; simp; omega) ?_); intro a' c' w11 hown hgw hfr; have HOWN := hid hown; have hch : Chg [w8.heap.size] w8 w11 := ((Chg.refl _ w8).alloc _).grown hgw (fun k hk => .inl (by simp [Value.ownBlock] at hk; simp [hk])); have HCH := hid hch; have hpb8 := (hch.block ph (block_lt HB_w8.out) (by have := block_lt HB_w8.out; simp; omega)).trans HB_w8.out; have HPB8 := hid hpb8; have hq4 := cell_of_block (j := 4) hpb8 (ar4 _); have hfz : ∀ j, w11.frozen? ⟨ph, j, none⟩ = false := (fun j => frozen_of_block HPB8.out); clear hown hgw hfr hch hpb8 ch4 ch4')
  clear hq4 hfz hb0
  have hcb : Chg [ph] w11 (w11.setCell ⟨ph, 4, none⟩ (.slice a' 3 c')) := (Chg.refl [ph] w11).setCell (.inl (by simp)) _
  have hhb : (w11.setCell ⟨ph, 4, none⟩ (.slice a' 3 c')).heap[ph]? = some (.cells (ItV.arr { k0 with ks := ⟨a', 3, c'⟩ }) 27 (0, 0)) := block_setCell HPB8.out _
  have hpi := HPI.out
  have hphz := HPHZ.out
  have hpr := HPR.out
  have hpr5 := HPR5.out
  have keep : ∀ x : ItV, x.ok w8 → (∀ k ∈ x.foot, k < ph) → x.ok (w11.setCell ⟨ph, 4, none⟩ (.slice a' 3 c')) := fun x h hf =>
    ItV.ok.keep hcb (ItV.ok.keep HCH.out h (fun k hk hm => by have h1 := hf k hk; have h2 := List.mem_singleton.1 hm; have h3 := HZ.out; omega)) (fun k hk hm => by have h1 := hf k hk; have h2 := List.mem_singleton.1 hm; omega)
  have blk : ∀ (q : Nat) (o : Obj), q < ph → w8.heap[q]? = some o → (w11.setCell ⟨ph, 4, none⟩ (.slice a' 3 c')).heap[q]? = some o := fun q o hq ho => by
    have hlt : q < w8.heap.size := by have := HZ.out; omega
    have h1 := (HCH.out.block q hlt (by simp; omega)).trans ho
    have hlt2 : q < w11.heap.size := Nat.lt_of_lt_of_le hlt HCH.out.size
    exact (hcb.block q hlt2 (by simp; omega)).trans h1
  have HV12 := hid (blk pv _ (by omega) HV8'.out)
  have HI12 := hid (blk pi _ (by omega) HI8.out)
  have HVO12 := hid (keep v HVO8.out (fun k hk => by have := HVF.out k hk; omega))
  have HYO12 := hid (keep y HYO8.out (fun k hk => by have := HYF.out k hk; omega))
  have HKE12 : Hid (∀ x ∈ k0.kids, x.ok (w11.setCell ⟨ph, 4, none⟩ (.slice a' 3 c'))) := fun x hx => keep x (HKE.out x hx) (fun k hk => by have := HK0F.out k (ItV.mem_foot.2 (.inr (.inr ⟨x, hx, hk⟩))); omega)
  have HKF12 : Hid (∀ x ∈ k0.kids, ∀ k ∈ x.foot, k < pi) := fun x hx k hk => HK0F.out k (ItV.mem_foot.2 (.inr (.inr ⟨x, hx, hk⟩)))
  have HKDF : Hid (∀ k ∈ k0.ds.blk, k < pi) := fun k hk => HK0F.out k (ItV.mem_foot.2 (.inl hk))
  have HKD12 : Hid (SlC (w11.setCell ⟨ph, 4, none⟩ (.slice a' 3 c')) k0.ds (k0.data.map B8)) := (HKD.out.keep HCH.out (fun k hk hm => by have h1 := HKDF.out k hk; have h2 := List.mem_singleton.1 hm; have h3 := HZ.out; omega)).keep hcb (fun k hk hm => by have h1 := HKDF.out k hk; have h2 := List.mem_singleton.1 hm; omega)
  have HOW12 : Hid ((w11.setCell ⟨ph, 4, none⟩ (.slice a' 3 c')).ownsRow z 27 5 (.slice a' 3 c') 3 (itmCells k0.kids)) := hcb.owns HOWN.out (fun k hk hm => by have h1 := (HOWN.out.lt k hk).1; have h2 := List.mem_singleton.1 hm; omega)
  have HBW12 : Hid (Below b w (w11.setCell ⟨ph, 4, none⟩ (.slice a' 3 c'))) := (HBW8.out.trans (HCH.out.below (B := b) (fun k hk => by rw [List.mem_singleton.1 hk]; exact HZ8.out) HZ8.out)).trans (hcb.below (B := b) (fun k hk => by rw [List.mem_singleton.1 hk]; exact HZ7.out) (Nat.le_trans HZ8.out HCH.out.size))
  have HHB := hid hhb
  have HZS : Hid (z ≤ (w11.setCell ⟨ph, 4, none⟩ (.slice a' 3 c')).heap.size) := by
    show z ≤ _
    have h1 := HCH.out.size
    have h2 := hcb.size
    have h3 := HZ.out
    omega
  clear hcb hhb hpi hphz hpr hpr5 keep blk HV8' HI8 HVO8 HYO8 HKE HKD HKS HK8 HK0F HBW8 HPB8 HCH HOWN RDK HB_w8 HZ HZ8
  generalize w11.setCell ⟨ph, 4, none⟩ (.slice a' 3 c') = w12 at *
  go_wp2_with fail
  refine (pick_any how 9 _ (by omega) (by omega)).mono ?_
  rintro e u ⟨rfl, rfl⟩
  generalize hpk : pick how 9 = pk at *
  have HPK := hid hpk
  clear hpk
  go_upto_block 0 with (fail)
  go_cut [] (fun wx => ∃ vi vh : ItV, Alt b w wx pi ph vi vh)
  case first =>
    obtain ⟨q0, q1, q2, hq⟩ : ∃ q0 q1 q2, k0.kids = [q0, q1, q2] := by
      match hm : k0.kids, HK3.out with
      | [x, y, z], _ => exact ⟨x, y, z, rfl⟩
    obtain ⟨hnc, -, hsome⟩ := own_slice HOW12.out
    obtain ⟨g, rfl, hgz, -⟩ := hsome (by decide)
    have HNC := hid hnc; have HGZ := hid hgz
    rw [hq] at HOW12 HKE12 HKF12
    clear hnc hsome hgz hq
    have hpp := HPI.out
    have HPH3 : Hid (ph < g) := by show ph < g; have h1 := HPHZ.out; have h2 := HGZ.out; omega
    have hfy : ∀ k ∈ y.foot, k ≠ pi := fun k hk he => by have h1 := HYF.out k hk; omega
    have HFY := hid hfy
    have hfv : ∀ k ∈ v.foot, k < pi := fun k hk => by have h1 := HVF.out k hk; have h2 := HPR.out; have h3 := HPR5.out; omega
    have HFVP := hid hfv
    have hn1k : y.ks.n ≤ 1000 := Nat.le_trans HN0.out (by decide)
    have HN1K := hid hn1k
    clear hfy hfv hn1k
    have HLOW : Hid (pi ≠ g ∧ ph ≠ g ∧ pi ≠ ph ∧ b ≤ pi ∧ b ≤ ph ∧ b ≤ g) := by have h1 := HPH3.out; have h2 := HZ5.out; exact ⟨by omega, by omega, by omega, by omega, by omega, by omega⟩
    have hch4 : w12.cell? ⟨ph, 4, none⟩ = some (.slice (some ⟨g, 0, none⟩) 3 c') := cell_of_block (j := 4) HHB.out (ar4 _)
    have hfph : ∀ j, w12.frozen? ⟨ph, j, none⟩ = false := fun j => frozen_of_block HHB.out
    have hfpi : ∀ j, w12.frozen? ⟨pi, j, none⟩ = false := fun j => frozen_of_block HI12.out
    have set : ∀ (j : Nat) (u : Value) (l' : List ItV), (itmCells [q0, q1, q2]).set j u = itmCells l' → l'.length = 3 → (∀ x ∈ l', x.ok w12 ∧ ∀ k ∈ x.foot, k < pi) → ∃ vi vh : ItV, Alt b w (w12.setCell ⟨g, j, none⟩ u) pi ph vi vh := fun j u l' hl hn hx => by
      have hc : Chg [g] w12 (w12.setCell ⟨g, j, none⟩ u) := (Chg.refl [g] w12).setCell (.inl (by simp)) _
      have hlo : ∀ k, k < pi → k ∉ [g] := fun k hk hm => by have h1 := List.mem_singleton.1 hm; have h2 := HPH3.out; omega
      have ho := (HOW12.out.stored j u).1
      rw [hl] at ho
      exact alt_mk (s := ⟨some ⟨g, 0, none⟩, 3, c'⟩) (l := l') ((hc.block pi (block_lt HI12.out) (by simp; exact HLOW.out.1)).trans HI12.out) ((hc.block ph (block_lt HHB.out) (by simp; exact HLOW.out.2.1)).trans HHB.out) (ItV.ok.keep hc HYO12.out (fun k hk => hlo k (HYF.out k hk))) HN1K.out HFY.out
        (HBW12.out.trans (hc.below (B := b) (fun k hk => by rw [List.mem_singleton.1 hk]; exact HLOW.out.2.2.2.2.2) (by have h1 := block_lt HI12.out; have h2 := HLOW.out.2.2.2.1; omega))) (HKD12.out.keep hc (fun k hk => hlo k (HKDF.out k hk))) HKDF.out (SlR.of_own (s := ⟨some ⟨g, 0, none⟩, 3, c'⟩) ho (show 3 ≤ 1099511627776 by decide)) (fun k hk => by simp [Sl.blk] at hk; have := HPH3.out; omega) hpp
        (fun x h => ItV.ok.keep hc (hx x h).1 (fun k hk => hlo k ((hx x h).2 k hk))) (fun x h => (hx x h).2)
    have hfg : ∀ j, w12.frozen? ⟨g, j, none⟩ = false := fun j => by
      rcases HOW12.out.2 with ⟨hv, h0⟩ | ⟨g', cap, cur, hv, hg, hh, _⟩
      · simp at hv
      · simp only [Value.slice.injEq, Option.some.injEq, Addr.mk.injEq] at hv
        obtain ⟨⟨rfl, _, _⟩, _, _⟩ := hv
        simp [World.frozen?, hh]
    have HFG := hid hfg
    clear hfg
    have SET := hid set
    clear set
    have kp : ∀ q, pi ≤ q → ∀ W : World, Chg [q] w12 W → (∀ x : ItV, x.ok w12 → (∀ k ∈ x.foot, k < pi) → x.ok W) ∧ SlC W k0.ds (k0.data.map B8) ∧ Below b w W := fun q hq W hc =>
      ⟨fun x h hf => ItV.ok.keep hc h (fun k hk hm => by have h1 := hf k hk; have h2 := List.mem_singleton.1 hm; omega), HKD12.out.keep hc (fun k hk hm => by have h1 := HKDF.out k hk; have h2 := List.mem_singleton.1 hm; omega),
        HBW12.out.trans (hc.below (B := b) (fun k hk => by rw [List.mem_singleton.1 hk]; have := HLOW.out.2.2.2.1; omega) (by have h1 := block_lt HI12.out; have h2 := HLOW.out.2.2.2.1; omega))⟩
    have KP := hid kp
    clear kp
    by_cases e0 : pk = 0
    · subst e0
      have hc12 : w12.cell? ⟨g, 12, none⟩ = some (.int .i64 q2.int) := by rw [HOW12.out.cellAt 12 (by decide)]; rfl
      have hfg : ∀ j, w12.frozen? ⟨g, j, none⟩ = false := HFG.out
      go_wp2_with fail
      go_meet
      exact SET.out 12 _ [q0, q1, { q2 with int := wrap64 (q2.int + 1) }] rfl rfl (fun x hx => by
        simp only [List.mem_cons, List.not_mem_nil, or_false] at hx
        rcases hx with rfl | rfl | rfl
        · exact ⟨HKE12.out _ (by simp), HKF12.out _ (by simp)⟩
        · exact ⟨HKE12.out _ (by simp), HKF12.out _ (by simp)⟩
        · exact ⟨ok_same _ _ _ (HKE12.out q2 (by simp)), fun k hk => HKF12.out q2 (by simp) k (foot_same _ _ _ hk)⟩)
    have n0 : (pk == 0) = false := by simpa using e0
    by_cases e1 : pk = 1
    · subst e1
      have hc6 : w12.cell? ⟨g, 6, none⟩ = some (.int .i64 q1.typ) := by rw [HOW12.out.cellAt 6 (by decide)]; rfl
      have hfg : ∀ j, w12.frozen? ⟨g, j, none⟩ = false := HFG.out
      go_wp2_with fail
      go_meet
      exact SET.out 6 _ [q0, { q1 with typ := 3 }, q2] rfl rfl (fun x hx => by
        simp only [List.mem_cons, List.not_mem_nil, or_false] at hx
        rcases hx with rfl | rfl | rfl
        · exact ⟨HKE12.out _ (by simp), HKF12.out _ (by simp)⟩
        · exact ⟨ok_same _ _ _ (HKE12.out q1 (by simp)), fun k hk => HKF12.out q1 (by simp) k (foot_same _ _ _ hk)⟩
        · exact ⟨HKE12.out _ (by simp), HKF12.out _ (by simp)⟩)
    have n1 : (pk == 1) = false := by simpa using e1
    by_cases e2 : pk = 2
    · subst e2
      have hsl : ∀ w, (Instr.slice 25 (.slice (some ⟨g, 0, none⟩) 3 c') none (some (.int .i64 2)) none).run Try.prog w = .ok (.slice (some ⟨g, 0, none⟩) 2 c') w := fun w => run_slice_front (P := Try.prog) 25 27 5 Try.underlying25 (fun w => by kernel_rfl) (some ⟨g, 0, none⟩) 3 c' 2 (by have := HNC.out; omega) w
      have ho2 := own_take (k := 2) HOW12.out (by decide)
      have HO2 := hid ho2
      clear ho2
      go_wp2_with fail
      go_meet
      have hcb : Chg [ph] w12 (w12.setCell ⟨ph, 4, none⟩ (.slice (some ⟨g, 0, none⟩) 2 c')) := (Chg.refl [ph] w12).setCell (.inl (by simp)) _
      have K := KP.out ph (Nat.le_of_lt hpp) _ hcb
      have ho3 := hcb.owns HO2.out (fun k hk hm => by have h1 := (HO2.out.lt k hk).1; have h2 := List.mem_singleton.1 hm; have h3 := HPHZ.out; omega)
      exact alt_mk (k0 := k0) (s := ⟨some ⟨g, 0, none⟩, 2, c'⟩) (l := [q0, q1]) ((hcb.block pi (block_lt HI12.out) (by simp; exact HLOW.out.2.2.1)).trans HI12.out) (block_setCell HHB.out _) (K.1 y HYO12.out HYF.out) HN1K.out HFY.out K.2.2 K.2.1 HKDF.out (SlR.of_own (s := ⟨some ⟨g, 0, none⟩, 2, c'⟩) ho3 (show 2 ≤ 1099511627776 by decide)) (fun k hk => by simp [Sl.blk] at hk; have := HPH3.out; omega) hpp
        (fun x hx => K.1 x (HKE12.out x (by simp at hx ⊢; rcases hx with h | h <;> simp [h])) (HKF12.out x (by simp at hx ⊢; rcases hx with h | h <;> simp [h]))) (fun x hx => HKF12.out x (by simp at hx ⊢; rcases hx with h | h <;> simp [h]))
    have n2 : (pk == 2) = false := by simpa using e2
    by_cases e3 : pk = 3
    · subst e3
      have hc0 : w12.cell? ⟨pi, 0, none⟩ = some (.int .i64 y.tag) := cell_of_block (j := 0) HI12.out (ar0 y)
      go_wp2_with fail
      go_meet
      have hcb : Chg [pi] w12 (w12.setCell ⟨pi, 0, none⟩ (.int .i64 (wrap64 (y.tag + 1)))) := (Chg.refl [pi] w12).setCell (.inl (by simp)) _
      have K := KP.out pi (Nat.le_refl _) _ hcb
      exact alt_mk (k0 := k0) (vi := { y with tag := wrap64 (y.tag + 1) }) (s := ⟨some ⟨g, 0, none⟩, 3, c'⟩) (l := [q0, q1, q2]) (block_setCell HI12.out _) ((hcb.block ph (block_lt HHB.out) (by simp; exact fun h => HLOW.out.2.2.1 h.symm)).trans HHB.out) (ok_same _ _ _ (K.1 y HYO12.out HYF.out)) HN1K.out (fun k hk => HFY.out k (foot_same _ _ _ hk)) K.2.2 K.2.1 HKDF.out (SlR.of_own (s := ⟨some ⟨g, 0, none⟩, 3, c'⟩) (hcb.owns HOW12.out (fun k hk hm => by have h1 := (HOW12.out.lt k hk).1; have h2 := List.mem_singleton.1 hm; have h3 := HPHZ.out; omega)) (show 3 ≤ 1099511627776 by decide)) (fun k hk => by simp [Sl.blk] at hk; have := HPH3.out; omega) hpp (fun x hx => K.1 x (HKE12.out x hx) (HKF12.out x hx)) HKF12.out
    have n3 : (pk == 3) = false := by simpa using e3
    by_cases e4 : pk = 4
    · subst e4
      have hch4' : (w12.alloc (.cells v.arr 27)).cell? ⟨ph, 4, none⟩ = some (.slice (some ⟨g, 0, none⟩) 3 c') := cell_later ((Below.refl _ _).alloc (Nat.le_refl _) _) hch4
      go_wp2_with (first | (refine wpList_load_row rfl 27 _ rfl pv rfl _ _ _ _ HV12.out Try.underlying27 rfl iSize ?_) | (refine wpList_build_item rfl 25 27 _ rfl v rfl i Try.underlying25 hi hz0 hz1 ?_) | (at_builtin; go_must (refine wpList_append_c rfl _ _ 25 rfl z 27 i _ 5 72 Try.underlying25 hi hz0 hz1 hz2 rfl (by decide) (.slice (some ⟨g, 0, none⟩) 3 c') 3 _ rfl ((Chg.of_below ((Below.refl _ _).alloc (Nat.le_refl _) (.cells v.arr 27)) []).owns HOW12.out (fun k _ hm => by cases hm)) _ 1 _ v.cells rfl (RdC.new _ _ _ _ v.cells (by simp [ItV.cells]) 5 rfl _ rfl) (by have := itm_one [v]; simpa [itmCells] using this) (fun hx => by cases hx) (by decide) (by decide) (by have := HZS.out; simp; omega) ?_); intro a9 c9 w13 hown hgw hfr; have HOWN := hid hown; have hch : Chg [g] w12 w13 := ((Chg.refl _ w12).alloc _).grown hgw (fun k hk => .inl (by simp [Value.ownBlock] at hk; simp [hk])); have HCH := hid hch; have hpb8 := (hch.block ph (block_lt HHB.out) (by simp; exact HLOW.out.2.1)).trans HHB.out; have HPB8 := hid hpb8; have hq4 := cell_of_block (j := 4) hpb8 (ar4 _); have hfz : ∀ j, w13.frozen? ⟨ph, j, none⟩ = false := (fun j => frozen_of_block HPB8.out); clear hown hgw hfr hch hpb8))
      go_meet
      have hcb : Chg [ph] w13 (w13.setCell ⟨ph, 4, none⟩ (.slice a9 4 c9)) := (Chg.refl [ph] w13).setCell (.inl (by simp)) _
      have K := KP.out g (Nat.le_of_lt (Nat.lt_trans hpp HPH3.out)) _ HCH.out
      have hs13 := HCH.out.size
      have kk : ∀ x : ItV, x.ok w13 → (∀ k ∈ x.foot, k < pi) → x.ok (w13.setCell ⟨ph, 4, none⟩ (.slice a9 4 c9)) := fun x h hf => ItV.ok.keep hcb h (fun k hk hm => by have h1 := hf k hk; have h2 := List.mem_singleton.1 hm; omega)
      have hall : ∀ x ∈ [q0, q1, q2] ++ [v], x.ok w12 ∧ ∀ k ∈ x.foot, k < pi := fun x hx => by
        rcases List.mem_append.1 hx with h | h
        · exact ⟨HKE12.out x h, HKF12.out x h⟩
        · rw [List.mem_singleton.1 h]; exact ⟨HVO12.out, HFVP.out⟩
      have how4 := hcb.owns HOWN.out (fun k hk hm => by have h1 := (HOWN.out.lt k hk).1; have h2 := List.mem_singleton.1 hm; have h3 := HPHZ.out; omega)
      have how5 : (w13.setCell ⟨ph, 4, none⟩ (.slice a9 4 c9)).ownsRow z 27 5 (.slice a9 4 c9) 4 (itmCells ([q0, q1, q2] ++ [v])) := how4
      have hbb : b ≤ w13.heap.size := by have h1 := block_lt HHB.out; have h2 := HLOW.out.2.2.2.2.1; omega
      exact alt_mk (k0 := k0) (vi := y) (s := ⟨a9, 4, c9⟩) (l := [q0, q1, q2] ++ [v]) ((hcb.block pi (Nat.lt_of_lt_of_le (block_lt HI12.out) hs13) (by simp; exact HLOW.out.2.2.1)).trans ((HCH.out.block pi (block_lt HI12.out) (by simp; exact HLOW.out.1)).trans HI12.out)) (block_setCell HPB8.out _) (kk y (K.1 y HYO12.out HYF.out) HYF.out) HN1K.out HFY.out
        (K.2.2.trans (hcb.below (B := b) (fun k hk => by rw [List.mem_singleton.1 hk]; exact HLOW.out.2.2.2.2.1) hbb)) (K.2.1.keep hcb (fun k hk hm => by have h1 := HKDF.out k hk; have h2 := List.mem_singleton.1 hm; omega)) HKDF.out (SlR.of_own (s := ⟨a9, 4, c9⟩) how5 (show 4 ≤ 1099511627776 by decide)) (fun k hk => by have h1 := blk_own (s := ⟨a9, 4, c9⟩) how5 k hk; have h2 := HPHZ.out; omega) hpp
        (fun x hx => kk x (K.1 x (hall x hx).1 (hall x hx).2) (hall x hx).2) (fun x hx => (hall x hx).2)
    have n4 : (pk == 4) = false := by simpa using e4
    by_cases e5 : pk = 5
    · subst e5
      go_wp2_with (first | (refine wpList_load_row rfl 27 _ rfl pv rfl _ _ _ _ HV12.out Try.underlying27 rfl iSize ?_) | (refine wpList_store_obj rfl 27 _ _ rfl pi rfl v.arr rfl _ _ HI12.out rfl iSize (arr_one _) ?_; intro w13 hb13 hc13 hs13; have HB13 := hid hb13; have HC13 := hid hc13; clear hb13 hc13 hs13))
      go_meet
      have hcb : Chg [pi] w12 w13 := HC13.out
      have K := KP.out pi (Nat.le_refl _) _ hcb
      exact alt_mk (k0 := k0) (vi := v) (s := ⟨some ⟨g, 0, none⟩, 3, c'⟩) (l := [q0, q1, q2]) HB13.out ((hcb.block ph (block_lt HHB.out) (by simp; exact fun h => HLOW.out.2.2.1 h.symm)).trans HHB.out) (K.1 v HVO12.out HFVP.out) (Nat.le_trans HV8.out (by decide)) (fun k hk he => by have := HFVP.out k hk; omega) K.2.2 K.2.1 HKDF.out (SlR.of_own (s := ⟨some ⟨g, 0, none⟩, 3, c'⟩) (hcb.owns HOW12.out (fun k hk hm => by have h1 := (HOW12.out.lt k hk).1; have h2 := List.mem_singleton.1 hm; have h3 := HPHZ.out; omega)) (show 3 ≤ 1099511627776 by decide)) (fun k hk => by simp [Sl.blk] at hk; have := HPH3.out; omega) hpp (fun x hx => K.1 x (HKE12.out x hx) (HKF12.out x hx)) HKF12.out
    have n5 : (pk == 5) = false := by simpa using e5
    go_wp2_with fail
    go_meet
    exact alt_mk (k0 := k0) (s := ⟨some ⟨g, 0, none⟩, 3, c'⟩) (l := [q0, q1, q2]) HI12.out HHB.out HYO12.out HN1K.out HFY.out HBW12.out HKD12.out HKDF.out (SlR.of_own (s := ⟨some ⟨g, 0, none⟩, 3, c'⟩) HOW12.out (show 3 ≤ 1099511627776 by decide)) (fun k hk => by simp [Sl.blk] at hk; have := HPH3.out; omega) hpp HKE12.out HKF12.out
  case rest =>
    clear HV12 HI12 HVO12 HYO12 HKE12 HKD12 HOW12 HBW12 HHB HZS HYF HVF HKF12 HKDF
    obtain ⟨vi, vh, ha⟩ := hcut
    have HA := hid ha
    clear ha
    have c4 : wc.cell? ⟨pi, 4, none⟩ = some (.slice vi.ks.a vi.ks.n vi.ks.c) := cell_of_block (j := 4) HA.out.hi (ar4 vi)
    have HWI := hid HA.out.hi; have HWO := hid HA.out.oki; have HWN := hid HA.out.ni; have HWB := hid HA.out.bel
    have HBS : Hid (b ≤ wc.heap.size) := by show b ≤ _; have h1 := block_lt HWI.out; have h2 := HZ5.out; omega
    by_cases h0 : vi.ks.n = 0
    · have c4' := c4
      rw [h0] at c4'
      clear c4
      go_wp2_with (refine wpList_load_row rfl 27 _ rfl pi rfl _ _ _ _ HWI.out Try.underlying27 rfl iSize ?_)
      have hkd : vi.it.kids.length ≤ 1000000 := by
        have h : vi.it.kids = vi.kids.map ItV.it := by rw [ItV.it_eq]
        rw [h, List.length_map, (ItV.ok_iff.1 HWO.out).2.1.klen]
        exact Nat.le_trans HWN.out (by decide)
      have HKD := hid hkd
      clear hkd
      refine (rread_any vi _ HWO.out HKD.out).mono ?_
      intro e wa hres
      obtain ⟨q1, c1, rfl, hq1, hba, hr1, hc1⟩ := rs_out hres
      clear hres
      have HQ1 := hid hq1; have HR1 := hid hr1; have HC1 := hid hc1
      have HIA := hid ((hba.block _ (block_lt HWI.out)).trans HWI.out)
      have HOA := hid (HWO.out.below hba)
      have HBA := hid (HWB.out.trans (hba.mono HBS.out))
      have HSA : Hid (b ≤ wa.heap.size) := Nat.le_trans HBS.out hba.size
      clear hq1 hr1 hc1 hba
      go_upto_region 24 with (first | (refine wpList_alloc_obj rfl 31 rfl _ pZero ?_) | (refine wpList_store_obj rfl 31 _ _ rfl wa.heap.size rfl q1.arr rfl _ _ (block_new wa _) rfl pSize (parr_one _) ?_; intro wb hb2 hc2 hs2; have HB_wb := hid hb2; have HC_wb := hid hc2; clear hb2 hc2 hs2))
      have hbel : Below wa.heap.size wa wb := ((Below.refl _ wa).alloc (Nat.le_refl _) _).trans (HC_wb.out.below (fun k hk => by rw [List.mem_singleton.1 hk]; exact Nat.le_refl _) (by simp))
      have HIB := hid ((hbel.block _ (block_lt HIA.out)).trans HIA.out)
      have HOB := hid (HOA.out.below hbel)
      have HQ1B := hid (HQ1.out.below hbel)
      have HBB := hid (HBA.out.trans (hbel.mono HSA.out))
      have HSB : Hid (b ≤ wb.heap.size) := Nat.le_trans HSA.out hbel.size
      clear hbel HIA HOA HQ1 HBA HC_wb
      generalize wa.heap.size = pa at *
      go_wp2_with (refine wpList_load_row rfl 27 _ rfl pi rfl _ _ _ _ HIB.out Try.underlying27 rfl iSize ?_)
      refine (rreadR_any vi _ HOB.out HKD.out).mono ?_
      intro e wd hres
      obtain ⟨q2, c2, rfl, hq2, hbd, hr2, hc2⟩ := rs_out hres
      clear hres
      have hcc : c2 = c1 := by rw [hc2, HC1.out]
      subst hcc
      have HQ2 := hid hq2; have HR2 := hid hr2
      have HPA := hid ((hbd.block _ (block_lt HB_wb.out)).trans HB_wb.out)
      have HQ1D := hid (HQ1B.out.below hbd)
      have HBD := hid (HBB.out.trans (hbd.mono HSB.out))
      have HSD : Hid (b ≤ wd.heap.size) := Nat.le_trans HSB.out hbd.size
      clear hq2 hr2 hc2 hbd HB_wb HQ1B HBB HIB HOB
      go_upto_region 25 with (first | (refine wpList_alloc_obj rfl 31 rfl _ pZero ?_) | (refine wpList_store_obj rfl 31 _ _ rfl wd.heap.size rfl q2.arr rfl _ _ (block_new wd _) rfl pSize (parr_one _) ?_; intro we hb2 hc2 hs2; have HB_we := hid hb2; have HC_we := hid hc2; clear hb2 hc2 hs2))
      have hbel : Below wd.heap.size wd we := ((Below.refl _ wd).alloc (Nat.le_refl _) _).trans (HC_we.out.below (fun k hk => by rw [List.mem_singleton.1 hk]; exact Nat.le_refl _) (by simp))
      have HPE := hid ((hbel.block _ (block_lt HPA.out)).trans HPA.out)
      have HQ1E := hid (HQ1D.out.below hbel)
      have HQ2E := hid (HQ2.out.below hbel)
      have HBE5 := hid (HBD.out.trans (hbel.mono HSD.out))
      have HSE : Hid (b ≤ we.heap.size) := Nat.le_trans HSD.out hbel.size
      clear hbel HPA HQ1D HQ2 HBD HC_we
      generalize wd.heap.size = pe at *
      go_wp2_with fail
      refine (known17_any _).mono ?_
      rintro e wf ⟨rfl, hbf⟩
      have HPF := hid ((hbf.block _ (block_lt HPE.out)).trans HPE.out)
      have HPF2 := hid ((hbf.block _ (block_lt HB_we.out)).trans HB_we.out)
      have HQ1F := hid (HQ1E.out.below hbf)
      have HQ2F := hid (HQ2E.out.below hbf)
      have HBF := hid (HBE5.out.trans (hbf.mono HSE.out))
      have HSF : Hid (b ≤ wf.heap.size) := Nat.le_trans HSE.out hbf.size
      clear hbf HPE HB_we HQ1E HQ2E HBE5
      go_wp2_with (first | (refine wpList_load_on rfl 31 _ rfl pa rfl _ _ _ _ HPF.out Try.underlying31 rfl pSize ?_) | (refine wpList_load_on rfl 31 _ rfl pe rfl _ _ _ _ HPF2.out Try.underlying31 rfl pSize ?_))
      refine (rsame_any q1 q2 _ HQ1F.out HQ2F.out (HR1.out.trans HR2.out.symm)).mono ?_
      rintro e wg ⟨rfl, hbg⟩
      have HBG := hid (HBF.out.trans (hbg.mono HSF.out))
      clear hbg
      go_wp2_with fail
      go_ret
      exact ⟨rfl, HBG.out⟩
    by_cases h5 : pk = 5
    · have hgt : (0 : Int) < (vi.ks.n : Int) := by omega
      go_wp2_with fail
      refine (pick_any how 9 _ (by omega) (by omega)).mono ?_
      rintro e u ⟨rfl, rfl⟩
      rw [HPK.out, h5]
      clear c4 h0 hgt
      go_wp2_with (refine wpList_load_row rfl 27 _ rfl pi rfl _ _ _ _ HWI.out Try.underlying27 rfl iSize ?_)
      have hkd : vi.it.kids.length ≤ 1000000 := by
        have h : vi.it.kids = vi.kids.map ItV.it := by rw [ItV.it_eq]
        rw [h, List.length_map, (ItV.ok_iff.1 HWO.out).2.1.klen]
        exact Nat.le_trans HWN.out (by decide)
      have HKD := hid hkd
      clear hkd
      refine (rread_any vi _ HWO.out HKD.out).mono ?_
      intro e wa hres
      obtain ⟨q1, c1, rfl, hq1, hba, hr1, hc1⟩ := rs_out hres
      clear hres
      have HQ1 := hid hq1; have HR1 := hid hr1; have HC1 := hid hc1
      have HIA := hid ((hba.block _ (block_lt HWI.out)).trans HWI.out)
      have HOA := hid (HWO.out.below hba)
      have HBA := hid (HWB.out.trans (hba.mono HBS.out))
      have HSA : Hid (b ≤ wa.heap.size) := Nat.le_trans HBS.out hba.size
      clear hq1 hr1 hc1 hba
      go_upto_region 24 with (first | (refine wpList_alloc_obj rfl 31 rfl _ pZero ?_) | (refine wpList_store_obj rfl 31 _ _ rfl wa.heap.size rfl q1.arr rfl _ _ (block_new wa _) rfl pSize (parr_one _) ?_; intro wb hb2 hc2 hs2; have HB_wb := hid hb2; have HC_wb := hid hc2; clear hb2 hc2 hs2))
      have hbel : Below wa.heap.size wa wb := ((Below.refl _ wa).alloc (Nat.le_refl _) _).trans (HC_wb.out.below (fun k hk => by rw [List.mem_singleton.1 hk]; exact Nat.le_refl _) (by simp))
      have HIB := hid ((hbel.block _ (block_lt HIA.out)).trans HIA.out)
      have HOB := hid (HOA.out.below hbel)
      have HQ1B := hid (HQ1.out.below hbel)
      have HBB := hid (HBA.out.trans (hbel.mono HSA.out))
      have HSB : Hid (b ≤ wb.heap.size) := Nat.le_trans HSA.out hbel.size
      clear hbel HIA HOA HQ1 HBA HC_wb
      generalize wa.heap.size = pa at *
      go_wp2_with (refine wpList_load_row rfl 27 _ rfl pi rfl _ _ _ _ HIB.out Try.underlying27 rfl iSize ?_)
      refine (rreadR_any vi _ HOB.out HKD.out).mono ?_
      intro e wd hres
      obtain ⟨q2, c2, rfl, hq2, hbd, hr2, hc2⟩ := rs_out hres
      clear hres
      have hcc : c2 = c1 := by rw [hc2, HC1.out]
      subst hcc
      have HQ2 := hid hq2; have HR2 := hid hr2
      have HPA := hid ((hbd.block _ (block_lt HB_wb.out)).trans HB_wb.out)
      have HQ1D := hid (HQ1B.out.below hbd)
      have HBD := hid (HBB.out.trans (hbd.mono HSB.out))
      have HSD : Hid (b ≤ wd.heap.size) := Nat.le_trans HSB.out hbd.size
      clear hq2 hr2 hc2 hbd HB_wb HQ1B HBB HIB HOB
      go_upto_region 25 with (first | (refine wpList_alloc_obj rfl 31 rfl _ pZero ?_) | (refine wpList_store_obj rfl 31 _ _ rfl wd.heap.size rfl q2.arr rfl _ _ (block_new wd _) rfl pSize (parr_one _) ?_; intro we hb2 hc2 hs2; have HB_we := hid hb2; have HC_we := hid hc2; clear hb2 hc2 hs2))
      have hbel : Below wd.heap.size wd we := ((Below.refl _ wd).alloc (Nat.le_refl _) _).trans (HC_we.out.below (fun k hk => by rw [List.mem_singleton.1 hk]; exact Nat.le_refl _) (by simp))
      have HPE := hid ((hbel.block _ (block_lt HPA.out)).trans HPA.out)
      have HQ1E := hid (HQ1D.out.below hbel)
      have HQ2E := hid (HQ2.out.below hbel)
      have HBE5 := hid (HBD.out.trans (hbel.mono HSD.out))
      have HSE : Hid (b ≤ we.heap.size) := Nat.le_trans HSD.out hbel.size
      clear hbel HPA HQ1D HQ2 HBD HC_we
      generalize wd.heap.size = pe at *
      go_wp2_with fail
      refine (known17_any _).mono ?_
      rintro e wf ⟨rfl, hbf⟩
      have HPF := hid ((hbf.block _ (block_lt HPE.out)).trans HPE.out)
      have HPF2 := hid ((hbf.block _ (block_lt HB_we.out)).trans HB_we.out)
      have HQ1F := hid (HQ1E.out.below hbf)
      have HQ2F := hid (HQ2E.out.below hbf)
      have HBF := hid (HBE5.out.trans (hbf.mono HSE.out))
      have HSF : Hid (b ≤ wf.heap.size) := Nat.le_trans HSE.out hbf.size
      clear hbf HPE HB_we HQ1E HQ2E HBE5
      go_wp2_with (first | (refine wpList_load_on rfl 31 _ rfl pa rfl _ _ _ _ HPF.out Try.underlying31 rfl pSize ?_) | (refine wpList_load_on rfl 31 _ rfl pe rfl _ _ _ _ HPF2.out Try.underlying31 rfl pSize ?_))
      refine (rsame_any q1 q2 _ HQ1F.out HQ2F.out (HR1.out.trans HR2.out.symm)).mono ?_
      rintro e wg ⟨rfl, hbg⟩
      have HBG := hid (HBF.out.trans (hbg.mono HSF.out))
      clear hbg
      go_wp2_with fail
      go_ret
      exact ⟨rfl, HBG.out⟩
    have hgt : (0 : Int) < (vi.ks.n : Int) := by omega
    go_wp2_with fail
    refine (pick_any how 9 _ (by omega) (by omega)).mono ?_
    rintro e u ⟨rfl, rfl⟩
    rw [HPK.out]
    have hne : (pk != 5) = true := by simpa using h5
    obtain ⟨a2, ha2⟩ : ∃ a2, (if vi.ks.c = 1 then vi.ks.a else vi.ks.a.map (·.add (1 * 5))) = a2 := ⟨_, rfl⟩
    have hsl : ∀ w, (Instr.slice 25 (.slice vi.ks.a vi.ks.n vi.ks.c) (some (.int .i64 1)) none none).run Try.prog w = .ok (.slice a2 (vi.ks.n - 1) (vi.ks.c - 1)) w := fun w => by rw [← ha2]; exact run_slice_back (P := Try.prog) 25 27 5 Try.underlying25 (fun w => by kernel_rfl) vi.ks.a vi.ks.n vi.ks.c 1 (by omega) w
    have HSLB := hid hsl
    have hks := (ItV.ok_iff.1 HWO.out).2.1
    have hrd := rdC_drop hks.rd hks.nc
    rw [ha2, itm_drop1] at hrd
    have HRD := hid hrd
    have HNO : Hid (a2 = none → vi.ks.c - 1 = 0) := fun hn => by
      obtain ⟨b9, o9, x9, h9, _, _⟩ := hks.row (k := 0) (by omega)
      rw [← ha2, h9] at hn
      split at hn <;> simp at hn
    clear hsl hks hrd ha2
    obtain ⟨zc, hzc⟩ : ∃ q, q = wc.heap.size := ⟨_, rfl⟩
    have HZC := hid hzc
    have HPIZ : Hid (pi < zc) := by show pi < zc; rw [hzc]; exact block_lt HWI.out
    have HZCB : Hid (b ≤ zc) := by show b ≤ zc; rw [hzc]; exact HBS.out
    clear hzc
    go_upto_region 22 with (fail)
    clear c4 h0 h5 hgt hne
    refine wp_region_each 5 [.eq (.agg vh.arr), stOwnV vh zc, .eq (.pointer (some ⟨pi, 4, none⟩)), .eq (.slice vi.ks.a vi.ks.n vi.ks.c), .eq (.slice a2 (vi.ks.n - 1) (vi.ks.c - 1))] (by kernel_rfl) (by kernel_rfl) (by kernel_rfl) (by kernel_rfl) ?_ ?_
    · as_aux_lemma =>
        refine each_c (o' := _) ?_ (each_c (o' := _) ?_ (each_c (o' := _) ?_ (each_c (o' := _) ?_ (each_c (o' := _) ?_ (each_n)))))
        -- 0: load 27 t12
        · intro w1 hg Ar seen
          have s12 := seen.slot 12 (v := .pointer (some ⟨ph, 0, none⟩)) (by kernel_rfl) rfl
          refine does_plain rfl fun K Q' hK => ?_
          refine wp_load_row 27 _ rfl ph (by simp [Act.eval, s12]) _ _ _ _ ((hg.block _ (block_lt HA.out.hh)).trans HA.out.hh) Try.underlying27 rfl iSize ?_
          exact hK _ _ (Grow.refl _) rfl
        -- 1: buildSlice 25 1 [(0, t88)]
        · intro w1 hg Ar seen
          obtain ⟨v0, e0, h0⟩ := seen.dep 0 (d := 88) (by kernel_rfl) (by kernel_rfl) rfl
          rcases h0 with rfl
          refine does_plain rfl fun K Q' hK => ?_
          refine wp_build_item _ 27 _ rfl vh (by simp [Act.eval, e0]) i Try.underlying25 hi hz0 hz1 ?_
          exact hK _ _ ((Below.refl _ _).alloc (Nat.le_refl _) _) ⟨⟨_, _, _⟩, rfl, rfl, own_one vh (HA.out.okh.below hg) (Nat.le_trans (Nat.le_of_eq HZC.out) hg.size)⟩
        -- 2: fieldAddr 27 t11 4
        · intro w1 hg Ar seen
          have s11 := seen.slot 11 (v := .pointer (some ⟨pi, 0, none⟩)) (by kernel_rfl) rfl
          refine does_plain rfl fun K Q' hK => ?_
          go_simp; exact hK _ _ (Grow.refl _) rfl
        -- 3: load 25 t90
        · intro w1 hg Ar seen
          obtain ⟨v2, e2, h2⟩ := seen.dep 2 (d := 90) (by kernel_rfl) (by kernel_rfl) rfl
          rcases h2 with rfl
          refine does_plain rfl fun K Q' hK => ?_
          have hc := cell_of_block (j := 4) ((hg.block _ (block_lt HWI.out)).trans HWI.out) (ar4 vi)
          go_simp; exact hK _ _ (Grow.refl _) rfl
        -- 4: slice 25 t91 some 1:i64 none none
        · intro w1 hg Ar seen
          obtain ⟨v3, e3, h3⟩ := seen.dep 3 (d := 91) (by kernel_rfl) (by kernel_rfl) rfl
          rcases h3 with rfl
          refine does_plain rfl fun K Q' hK => ?_
          have hsl := HSLB.out
          go_simp; exact hK _ _ (Grow.refl _) rfl
    intro w1 hg
    refine upon_w' (js := [0, 1, 2, 3, 4]) (by rfl) ?_
    refine upon_c (x := some 88) (by kernel_rfl) rfl fun v0 h0 => ?_
    rcases h0 with rfl
    refine upon_c (x := some 89) (by kernel_rfl) rfl fun v1 h1 => ?_
    refine upon_c (x := some 90) (by kernel_rfl) rfl fun v2 h2 => ?_
    rcases h2 with rfl
    refine upon_c (x := some 91) (by kernel_rfl) rfl fun v3 h3 => ?_
    rcases h3 with rfl
    refine upon_c (x := some 92) (by kernel_rfl) rfl fun v4 h4 => ?_
    rcases h4 with rfl
    refine upon_n ?_
    obtain ⟨s, rfl, hsn, hown1⟩ := h1
    obtain ⟨sa, sn, sc⟩ := s
    simp only at hsn
    subst hsn
    have HOW := hid hown1
    have HI1 := hid ((hg.block _ (block_lt HWI.out)).trans HWI.out)
    have HRD1 := hid (HRD.out.below hg)
    have HG := hid hg
    have HZ1c : Hid (zc ≤ w1.heap.size) := by show zc ≤ _; rw [HZC.out]; exact hg.size
    clear hown1 hg
    go_simp
    go_upto_region 23 with (at_builtin; go_must (refine wpList_append_c rfl _ _ 25 rfl zc 27 i _ 5 72 Try.underlying25 hi hz0 hz1 hz2 rfl (by decide) (.slice sa 1 sc) 1 _ rfl HOW.out.own _ (vi.ks.n - 1) _ (itmCells (vi.kids.drop 1)) rfl HRD1.out (itm_one _) HNO.out (by unfold maxLen; have := HWN.out; omega) (by have := HWN.out; omega) (by have := HZ1c.out; omega) ?_); intro a' c' w8 hown hgw hfr; have HOWN := hid hown; have hch : Chg (Value.slice sa 1 sc).ownBlock.toList w1 w8 := (Chg.refl _ w1).grown hgw (fun k hk => .inl (by rw [hk]; simp)); have HCH := hid hch; have hah : ∀ k, k < zc → k ∉ (Value.slice sa 1 sc).ownBlock.toList := (fun k hk hm => by have h1 : (Value.slice sa 1 sc).ownBlock = some k := (by simpa using hm); have h2 := (HOW.out.own.lt k h1).1; omega); have HAH := hid hah; have hpb8 := (hch.block pi (block_lt HI1.out) (hah pi HPIZ.out)).trans HI1.out; have HPB8 := hid hpb8; have hq4 := cell_of_block (j := 4) hpb8 (ar4 _); have hfz : ∀ j, w8.frozen? ⟨pi, j, none⟩ = false := (fun j => frozen_of_block HPB8.out); clear hown hgw hfr hch hpb8 hah)
    clear hq4 hfz
    have hcb : Chg [pi] w8 (w8.setCell ⟨pi, 4, none⟩ (.slice a' (1 + (vi.ks.n - 1)) c')) := (Chg.refl [pi] w8).setCell (.inl (by simp)) _
    have hib : (w8.setCell ⟨pi, 4, none⟩ (.slice a' (1 + (vi.ks.n - 1)) c')).heap[pi]? = some (.cells (ItV.arr { vi with ks := ⟨a', 1 + (vi.ks.n - 1), c'⟩, kids := [vh] ++ vi.kids.drop 1 }) 27 (0, 0)) := block_setCell HPB8.out _
    have hpz := HPIZ.out
    have keep : ∀ x : ItV, x.ok wc → (∀ k ∈ x.foot, k ≠ pi) → x.ok (w8.setCell ⟨pi, 4, none⟩ (.slice a' (1 + (vi.ks.n - 1)) c')) := fun x h hf =>
      ItV.ok.keep hcb (ItV.ok.keep HCH.out (h.below HG.out) (fun k hk => HAH.out k (by have := h.lt k hk; have := HZC.out; omega))) (fun k hk hm => hf k hk (List.mem_singleton.1 hm))
    obtain ⟨k1, k2, k3⟩ := ItV.ok_iff.1 HWO.out
    have hds : SlC (w8.setCell ⟨pi, 4, none⟩ (.slice a' (1 + (vi.ks.n - 1)) c')) vi.ds (vi.data.map B8) :=
      ((k1.below HG.out).keep HCH.out (fun k hk => HAH.out k (by have := HWO.out.lt k (ItV.mem_foot.2 (.inl hk)); have := HZC.out; omega))).keep hcb (fun k hk hm => HA.out.fi k (ItV.mem_foot.2 (.inl hk)) (List.mem_singleton.1 hm))
    have how2 := hcb.owns HOWN.out (fun k hk hm => by have h1 := (HOWN.out.lt k hk).1; have h2 := List.mem_singleton.1 hm; omega)
    rw [← itm_app] at how2
    have hok2 : ItV.ok (w8.setCell ⟨pi, 4, none⟩ (.slice a' (1 + (vi.ks.n - 1)) c')) { vi with ks := ⟨a', 1 + (vi.ks.n - 1), c'⟩, kids := [vh] ++ vi.kids.drop 1 } :=
      ItV.ok_iff.2 ⟨hds, SlR.of_own (s := ⟨a', 1 + (vi.ks.n - 1), c'⟩) how2 (by have := HWN.out; simp only; omega), fun x hx => by
        rcases List.mem_append.1 hx with h | h
        · rw [List.mem_singleton.1 h]; exact keep vh HA.out.okh HA.out.fh
        · have hm := List.mem_of_mem_drop h
          exact keep x (k3 x hm) (fun k hk => HA.out.fi k (ItV.mem_foot.2 (.inr (.inr ⟨x, hm, hk⟩))))⟩
    have hbb : Below b w (w8.setCell ⟨pi, 4, none⟩ (.slice a' (1 + (vi.ks.n - 1)) c')) :=
      ((HWB.out.trans (HG.out.mono HBS.out)).trans (HCH.out.below (B := b) (fun k hk => by
        rcases Nat.lt_or_ge k zc with h' | h'
        · exact absurd hk (HAH.out k h')
        · exact Nat.le_trans HZCB.out h') (Nat.le_trans HZCB.out HZ1c.out))).trans (hcb.below (B := b) (fun k hk => by rw [List.mem_singleton.1 hk]; exact HZ5.out) (Nat.le_trans (Nat.le_trans HZCB.out HZ1c.out) HCH.out.size))
    have hbs2 : b ≤ (w8.setCell ⟨pi, 4, none⟩ (.slice a' (1 + (vi.ks.n - 1)) c')).heap.size := Nat.le_trans (Nat.le_trans (Nat.le_trans HZCB.out HZ1c.out) HCH.out.size) hcb.size
    have hn2 : (ItV.ks { vi with ks := ⟨a', 1 + (vi.ks.n - 1), c'⟩, kids := [vh] ++ vi.kids.drop 1 }).n ≤ 1001 := by have := HWN.out; simp only; omega
    clear k1 k2 k3 keep hds how2 hpz hcb HOWN HCH HAH HPB8 HRD1 HRD HG HI1 HOW HWI HWO HWN HWB HBS HA
    generalize ({ vi with ks := ⟨a', 1 + (vi.ks.n - 1), c'⟩, kids := [vh] ++ vi.kids.drop 1 } : ItV) = v2 at *
    generalize w8.setCell ⟨pi, 4, none⟩ (.slice a' (1 + (vi.ks.n - 1)) c') = w9 at *
    have HWI := hid hib; have HWO := hid hok2; have HWN := hid hn2; have HWB := hid hbb; have HBS := hid hbs2
    clear hib hok2 hn2 hbb hbs2
    go_wp2_with (refine wpList_load_row rfl 27 _ rfl pi rfl _ _ _ _ HWI.out Try.underlying27 rfl iSize ?_)
    have hkd : v2.it.kids.length ≤ 1000000 := by
      have h : v2.it.kids = v2.kids.map ItV.it := by rw [ItV.it_eq]
      rw [h, List.length_map, (ItV.ok_iff.1 HWO.out).2.1.klen]
      exact Nat.le_trans HWN.out (by decide)
    have HKD := hid hkd
    clear hkd
    refine (rread_any v2 _ HWO.out HKD.out).mono ?_
    intro e wa hres
    obtain ⟨q1, c1, rfl, hq1, hba, hr1, hc1⟩ := rs_out hres
    clear hres
    have HQ1 := hid hq1; have HR1 := hid hr1; have HC1 := hid hc1
    have HIA := hid ((hba.block _ (block_lt HWI.out)).trans HWI.out)
    have HOA := hid (HWO.out.below hba)
    have HBA := hid (HWB.out.trans (hba.mono HBS.out))
    have HSA : Hid (b ≤ wa.heap.size) := Nat.le_trans HBS.out hba.size
    clear hq1 hr1 hc1 hba
    go_upto_region 24 with (first | (refine wpList_alloc_obj rfl 31 rfl _ pZero ?_) | (refine wpList_store_obj rfl 31 _ _ rfl wa.heap.size rfl q1.arr rfl _ _ (block_new wa _) rfl pSize (parr_one _) ?_; intro wb hb2 hc2 hs2; have HB_wb := hid hb2; have HC_wb := hid hc2; clear hb2 hc2 hs2))
    have hbel : Below wa.heap.size wa wb := ((Below.refl _ wa).alloc (Nat.le_refl _) _).trans (HC_wb.out.below (fun k hk => by rw [List.mem_singleton.1 hk]; exact Nat.le_refl _) (by simp))
    have HIB := hid ((hbel.block _ (block_lt HIA.out)).trans HIA.out)
    have HOB := hid (HOA.out.below hbel)
    have HQ1B := hid (HQ1.out.below hbel)
    have HBB := hid (HBA.out.trans (hbel.mono HSA.out))
    have HSB : Hid (b ≤ wb.heap.size) := Nat.le_trans HSA.out hbel.size
    clear hbel HIA HOA HQ1 HBA HC_wb
    generalize wa.heap.size = pa at *
    go_wp2_with (refine wpList_load_row rfl 27 _ rfl pi rfl _ _ _ _ HIB.out Try.underlying27 rfl iSize ?_)
    refine (rreadR_any v2 _ HOB.out HKD.out).mono ?_
    intro e wd hres
    obtain ⟨q2, c2, rfl, hq2, hbd, hr2, hc2⟩ := rs_out hres
    clear hres
    have hcc : c2 = c1 := by rw [hc2, HC1.out]
    subst hcc
    have HQ2 := hid hq2; have HR2 := hid hr2
    have HPA := hid ((hbd.block _ (block_lt HB_wb.out)).trans HB_wb.out)
    have HQ1D := hid (HQ1B.out.below hbd)
    have HBD := hid (HBB.out.trans (hbd.mono HSB.out))
    have HSD : Hid (b ≤ wd.heap.size) := Nat.le_trans HSB.out hbd.size
    clear hq2 hr2 hc2 hbd HB_wb HQ1B HBB HIB HOB
    go_upto_region 25 with (first | (refine wpList_alloc_obj rfl 31 rfl _ pZero ?_) | (refine wpList_store_obj rfl 31 _ _ rfl wd.heap.size rfl q2.arr rfl _ _ (block_new wd _) rfl pSize (parr_one _) ?_; intro we hb2 hc2 hs2; have HB_we := hid hb2; have HC_we := hid hc2; clear hb2 hc2 hs2))
    have hbel : Below wd.heap.size wd we := ((Below.refl _ wd).alloc (Nat.le_refl _) _).trans (HC_we.out.below (fun k hk => by rw [List.mem_singleton.1 hk]; exact Nat.le_refl _) (by simp))
    have HPE := hid ((hbel.block _ (block_lt HPA.out)).trans HPA.out)
    have HQ1E := hid (HQ1D.out.below hbel)
    have HQ2E := hid (HQ2.out.below hbel)
    have HBE5 := hid (HBD.out.trans (hbel.mono HSD.out))
    have HSE : Hid (b ≤ we.heap.size) := Nat.le_trans HSD.out hbel.size
    clear hbel HPA HQ1D HQ2 HBD HC_we
    generalize wd.heap.size = pe at *
    go_wp2_with fail
    refine (known17_any _).mono ?_
    rintro e wf ⟨rfl, hbf⟩
    have HPF := hid ((hbf.block _ (block_lt HPE.out)).trans HPE.out)
    have HPF2 := hid ((hbf.block _ (block_lt HB_we.out)).trans HB_we.out)
    have HQ1F := hid (HQ1E.out.below hbf)
    have HQ2F := hid (HQ2E.out.below hbf)
    have HBF := hid (HBE5.out.trans (hbf.mono HSE.out))
    have HSF : Hid (b ≤ wf.heap.size) := Nat.le_trans HSE.out hbf.size
    clear hbf HPE HB_we HQ1E HQ2E HBE5
    go_wp2_with (first | (refine wpList_load_on rfl 31 _ rfl pa rfl _ _ _ _ HPF.out Try.underlying31 rfl pSize ?_) | (refine wpList_load_on rfl 31 _ rfl pe rfl _ _ _ _ HPF2.out Try.underlying31 rfl pSize ?_))
    refine (rsame_any q1 q2 _ HQ1F.out HQ2F.out (HR1.out.trans HR2.out.symm)).mono ?_
    rintro e wg ⟨rfl, hbg⟩
    have HBG := hid (HBF.out.trans (hbg.mono HSF.out))
    clear hbg
    go_wp2_with fail
    go_ret
    exact ⟨rfl, HBG.out⟩
end Go.Proofs.Ytfcobmncbnkppaa
