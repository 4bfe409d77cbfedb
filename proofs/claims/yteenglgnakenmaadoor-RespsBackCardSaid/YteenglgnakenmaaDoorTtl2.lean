/- ttlv.data, an item's plain, size, walk; Right. -/
import Derived.Test.YteenglgnakenmaaDoorTtl
import Derived.Test.YteenglgnakenmaaDoorUtfB
import Derived.Test.YteenglgnakenmaaDoorHand
import Derived.Test.YteenglgnakenmaaDoorRegionP
import Derived.Deep.DeepCutAuto
import Derived.Deep.CutBlock
namespace Go.Proofs.YteenglgnakenmaaDoor
open Go.RowKit
set_option linter.unusedVariables false
set_option linter.unusedSimpArgs false
set_option maxRecDepth 100000
set_option maxHeartbeats 3200000
def plainP (t k n : Int) (d : List UInt8) (nk : Nat) : Bool :=
  tagB t && (decide (1 ≤ k) && (decide (k ≤ 10) && (!(k != 1 && decide (0 < nk)) && (!(!isD k && decide (0 < d.length)) && (!((k == 1 || isD k) && n != 0) && (numB k n && datB k d))))))
def Itm.plain (i : Itm) : Bool := plainP i.tag i.typ i.int i.data i.kids.length
def walkL (one : Itm → Nat → Option Nat) : List Itm → Nat → Option Nat
  | [], c => some c
  | k :: r, c => match one k c with
    | none => none
    | some c' => walkL one r c'
def walkP : Nat → Itm → Nat → Option Nat
  | 0, _, _ => none
  | f + 1, i, c => if c + 1 ≤ 600 ∧ i.plain = true then walkL (walkP f) i.kids (c + 1) else none
def sizeF : Nat → Itm → Nat
  | 0, _ => 0
  | f + 1, i => if i.typ = 1 then i.kids.foldl (fun n k => min (n + sizeF f k) 2147483648) 8 else if isD i.typ = true then min (8 + up8 i.data.length) 2147483648 else 16
def rightI (i : Itm) : Bool := (walkP 12 i 0).isSome && decide (sizeF 100 i ≤ 8192)
theorem sizeF_k {f : Nat} {i : Itm} (h : i.typ = 1) : sizeF (f + 1) i = i.kids.foldl (fun n k => min (n + sizeF f k) 2147483648) 8 := by rw [sizeF, if_pos h]
theorem sizeF_d {f : Nat} {i : Itm} (h : i.typ ≠ 1) (h2 : isD i.typ = true) : sizeF (f + 1) i = min (8 + up8 i.data.length) 2147483648 := by rw [sizeF, if_neg h, if_pos h2]
theorem sizeF_o {f : Nat} {i : Itm} (h : i.typ ≠ 1) (h2 : isD i.typ = false) : sizeF (f + 1) i = 16 := by rw [sizeF, if_neg h, if_neg (by rw [h2]; decide)]
theorem fold_le (g : Itm → Nat) (l : List Itm) (n : Nat) (h : n ≤ 2147483648) : l.foldl (fun n k => min (n + g k) 2147483648) n ≤ 2147483648 := by
  induction l generalizing n with
  | nil => exact h
  | cons k l ih => exact ih _ (Nat.min_le_right _ _)
theorem sizeF_le (f : Nat) (i : Itm) : sizeF f i ≤ 2147483648 := by
  cases f with
  | zero => simp [sizeF]
  | succ f =>
    rw [sizeF]
    split
    · exact fold_le _ _ _ (by decide)
    · split
      · exact Nat.min_le_right _ _
      · decide
theorem take_map_snoc {l : List ItV} {k : Nat} {x : ItV} (h : l[k]? = some x) : (l.take (k + 1)).map ItV.it = (l.take k).map ItV.it ++ [x.it] := by
  rw [List.take_add_one, h]; simp
/-- An item in its box. -/
structure Bx (w W : World) (b : Nat) (v : ItV) : Prop where
  box : W.heap[b]? = some (.cells v.arr 30 (0, 0))
  ok : v.ok W
  bel : Below b w W
theorem Bx.start {w : World} {v : ItV} (h : v.ok w) : Bx w (w.alloc (.cells v.arr 30)) w.heap.size v :=
  ⟨block_new _ _, h.below ((Below.refl _ _).alloc (Nat.le_refl _) _), (Below.refl _ _).alloc (Nat.le_refl _) _⟩
theorem Bx.below {w W W' : World} {b : Nat} {v : ItV} (h : Bx w W b v) (hb : Below W.heap.size W W') : Bx w W' b v :=
  ⟨(hb.block _ (block_lt h.box)).trans h.box, h.ok.below hb, h.bel.trans (hb.mono (Nat.le_of_lt (block_lt h.box)))⟩
theorem Bx.cell {w W : World} {b j : Nat} {v : ItV} {u : Value} (h : Bx w W b v) (hu : v.arr[j]? = some u) : W.cell? ⟨b, j, none⟩ = some u := cell_of_block h.box hu
structure SzSt (f : Nat) (v : ItV) (w : World) (b : Nat) (u y : Value) (wr : World) : Prop where
  ex : ∃ (k m : Nat), k ≤ v.ks.n ∧ y = .int .i64 k ∧ u = .int .i64 m ∧ m ≤ 2147483648 ∧ m = ((v.kids.take k).map ItV.it).foldl (fun n k => min (n + sizeF f k) 2147483648) 8 ∧ Bx w wr b v
theorem data_any (k : Int) (a : Option Addr) (n c : Nat) (l : List UInt8) (w : World) (hr : RdB w a n l) (hno : a = none → c = 0) (hnc : n ≤ c) (hn : n ≤ 140737488355328) (hT : UT w) :
    Calls Tryd.prog 66 #[.int .i64 k, .slice a n c] w fun e w' => e = .returned (.bool (datB k l)) ∧ Below w.heap.size w w' := by
  have HL := hid hr.len
  by_cases h4 : k = 4
  · subst h4
    by_cases h0 : 0 < n
    · have h0z : (0 : Int) < (n : Int) := by omega
      have HD : Hid (datB 4 l = (((n : Int) % 8) == 0)) := by
        show _ = _
        unfold datB
        rw [if_pos rfl, HL.out]
        by_cases h : n % 8 = 0
        · have h' : (n : Int) % 8 = 0 := by omega
          simp [h0, h, h']
        · have h' : (n : Int) % 8 ≠ 0 := by omega
          rw [beq_eq_false_iff_ne.2 h']
          simp [h]
      go_enter Tryd.func66, Tryd.ntmps66
      go_wp2_with fail
      go_ret
      exact ⟨by rw [HD.out]; rfl, Below.refl _ _⟩
    · have h0z : ¬ ((0 : Int) < (n : Int)) := by omega
      have h0b : decide ((0 : Int) < (n : Int)) = false := decide_eq_false h0z
      have HD : Hid (datB 4 l = false) := by
        show _ = _
        unfold datB
        rw [if_pos rfl, HL.out]
        simp [h0]
      go_enter Tryd.func66, Tryd.ntmps66
      go_wp2_with fail
      go_ret
      exact ⟨by rw [HD.out]; rfl, Below.refl _ _⟩
  have e4 : (k == 4) = false := beq_eq_false_iff_ne.2 h4
  by_cases h7 : k = 7
  · subst h7
    have HD : Hid (datB 7 l = Lib.validD l) := rfl
    obtain ⟨t, ht⟩ : ∃ t : ByteArray, t = ⟨l.toArray⟩ := ⟨_, rfl⟩
    have hts : t.size = n := by rw [ht, ← HL.out]; simp [ByteArray.size]
    have htl : t.data.toList = l := by rw [ht]
    subst hts
    rw [← htl] at hr HD ⊢
    clear ht htl HL
    go_enter Tryd.func66, Tryd.ntmps66
    go_wp2_with fail
    refine (validB_any a t c w hr hno hnc hn hT).mono ?_
    rintro e w2 ⟨rfl, hb⟩
    dsimp only
    go_wp2_with fail
    go_ret
    exact ⟨by rw [HD.out]; rfl, hb⟩
  · have e7 : (k == 7) = false := beq_eq_false_iff_ne.2 h7
    have HD : Hid (datB k l = true) := by show _ = _; unfold datB; rw [if_neg h4, if_neg h7]
    go_enter Tryd.func66, Tryd.ntmps66
    go_wp2_with fail
    go_ret
    exact ⟨by rw [HD.out]; rfl, Below.refl _ _⟩
theorem size_any : ∀ (f : Nat) (v : ItV) (w : World) (dz : Int), dz + f = 101 → 1 ≤ dz → v.ok w →
    Calls Tryd.prog 57 #[.agg v.arr, .int .i64 dz] w fun e w' => e = .returned (.int .i64 (sizeF f v.it : Nat)) ∧ Below w.heap.size w w' := by
  intro f
  induction f with
  | zero =>
    intro v w dz hd h1 hv
    obtain rfl : dz = 101 := by omega
    obtain ⟨b, hbe⟩ : ∃ b, b = w.heap.size := ⟨_, rfl⟩
    have S := hid (Bx.start hv)
    rw [← hbe] at S
    have HBE := hid hbe
    go_enter Tryd.func57, Tryd.ntmps57
    go_upto_region 1 with (fail)
    rw [← hbe]
    clear hbe hv
    generalize w.alloc (.cells v.arr 30) = W at *
    go_wp2_with fail
    go_ret
    exact ⟨rfl, by rw [← HBE.out]; exact S.out.bel⟩
  | succ f ih =>
    intro v w dz hd h1 hv
    have IH := hid ih
    have hdz : ¬ (100 : Int) < dz := by omega
    have HD := hid (show dz + 1 + (f : Int) = 101 by omega)
    have HD1 := hid (show 1 ≤ dz + 1 by omega)
    have hw : IntKind.i64.wrap (dz + 1) = dz + 1 := IntWalk.i64_in _ (by omega)
    clear ih hd
    obtain ⟨b, hbe⟩ : ∃ b, b = w.heap.size := ⟨_, rfl⟩
    have S := hid (Bx.start hv)
    rw [← hbe] at S
    have HBE := hid hbe
    go_enter Tryd.func57, Tryd.ntmps57
    go_upto_region 1 with (fail)
    rw [← hbe]
    clear hbe hv
    generalize w.alloc (.cells v.arr 30) = W at *
    have d1 := S.out.cell (ar1 v)
    by_cases ht : v.typ = 1
    · rw [ht] at d1
      have HSZ : Hid (sizeF (f + 1) v.it = (v.kids.map ItV.it).foldl (fun n k => min (n + sizeF f k) 2147483648) 8) := by
        show _ = _
        rw [ItV.it_eq]
        exact sizeF_k ht
      have HT := hid ht
      clear ht
      have dk := S.out.cell (ar4 v)
      have hnn : v.ks.n ≤ 1099511627776 := (ItV.ok_iff.1 S.out.ok).2.1.sm
      obtain ⟨ka, hka⟩ : ∃ ka, v.ks.a = ka := ⟨_, rfl⟩
      rw [hka] at dk
      have HKA := hid hka; clear hka
      go_wp2_with fail
      clear d1 dk
      go_loopw [5, 18] (fun u y wr => SzSt f v w b u y wr) (fun _ y _ => v.ks.n - (intOf y).toNat)
      case atStart => exact ⟨⟨0, 8, Nat.zero_le _, rfl, rfl, by omega, by simp, S.out⟩⟩
      case round =>
        obtain ⟨k, m, hk, rfl, rfl, hm, hacc, hs⟩ := hrel.ex
        clear hrel
        clear S
        have S := hid hs; have HACC := hid hacc; have HMM := hid hm
        clear hs hacc hm
        by_cases hlt : k < v.ks.n
        · obtain ⟨bx, ox, x, hax, hx, hrow⟩ := (ItV.ok_iff.1 S.out.ok).2.1.row hlt
          rw [HKA.out] at hax
          subst hax
          have HX := hid ((ItV.ok_iff.1 S.out.ok).2.2 x (List.mem_of_getElem? hx))
          have HTK := hid (take_map_snoc hx)
          have HGX := hid hx
          have HR := hid hrow
          clear hx hrow
          go_upto_region 8 with (first | (refine wpList_load_mid rfl 30 _ rfl bx (ox + k * 5) rfl x.arr.toList _ HR.out Tryd.underlying30 rfl iSize ?_; simp only [Array.toArray_toList]) | (refine wpList_alloc_obj rfl 30 rfl _ iZero ?_) | (refine wpList_store_obj rfl 30 _ _ rfl wr.heap.size rfl _ rfl _ _ (block_new wr _) rfl iSize (arr_one x) ?_; intro w5 hb5 hc5 hs5; have KB := hid hb5; have HC5 := hid hc5; clear hb5 hc5 hs5))
          have hbel : Below wr.heap.size wr w5 := ((Below.refl _ wr).alloc (Nat.le_refl _) _).trans (HC5.out.below (fun k hk => by rw [List.mem_singleton.1 hk]; exact Nat.le_refl _) (by simp))
          have S5 := hid (S.out.below hbel)
          have HX5 := hid (HX.out.below hbel)
          have HB5 := hid hbel
          clear hbel HC5 HR S HX
          have S := S5; have HX := HX5
          clear S5 HX5
          generalize wr.heap.size = kb at *
          go_wp2_with (refine wpList_load_row rfl 30 _ rfl kb rfl _ _ _ _ KB.out Tryd.underlying30 rfl iSize ?_)
          refine (IH.out x _ (dz + 1) HD.out HD1.out HX.out).mono ?_
          rintro e w6 ⟨rfl, hb6⟩
          dsimp only
          have hsz := sizeF_le f x.it
          have HACC2 : Hid (min (m + sizeF f x.it) 2147483648 = ((v.kids.take (k + 1)).map ItV.it).foldl (fun n k => min (n + sizeF f k) 2147483648) 8) := by
            show _ = _
            rw [HTK.out, List.foldl_append, ← HACC.out]
            rfl
          have S6 := hid (S.out.below hb6)
          clear S hb6 KB HACC HTK HX
          generalize sizeF f x.it = q at *
          have hmm := HMM.out
          have hwm : IntKind.i64.wrap ((m : Int) + (q : Int)) = (m : Int) + (q : Int) := IntWalk.i64_in _ (by omega)
          go_wp2_with fail
          have HR : SzSt f v w b (.int .i64 (min ((m : Int) + (q : Int)) 2147483648)) (.int .i64 ((k : Int) + 1)) _ := ⟨⟨k + 1, min (m + q) 2147483648, by omega, by go_num, by congr 1; omega, by omega, HACC2.out, S6.out⟩⟩
          go_roundw
          case rel => first | exact HR | ((repeat apply Exists.intro); exact HR) | ((repeat apply Exists.intro); exact ⟨HR, rfl⟩)
          case measure => (simp [intOf] <;> omega)
        · obtain rfl : k = v.ks.n := by omega
          have HF : Hid (m = sizeF (f + 1) v.it) := by
            show _ = _
            rw [HSZ.out, HACC.out, List.take_of_length_le (by have := (ItV.ok_iff.1 S.out.ok).2.1.klen; omega)]
          go_wp2_with fail
          go_ret
          exact ⟨by rw [← HF.out]; rfl, by rw [← HBE.out]; exact S.out.bel⟩
    · have ht1 : (v.typ == 1) = false := beq_eq_false_iff_ne.2 ht
      have HT := hid ht
      clear ht
      go_wp2_with fail
      refine (isData_any v.typ _).mono ?_
      rintro e w2 ⟨rfl, rfl⟩
      dsimp only
      cases hq : isD v.typ with
      | true =>
        have HQ := hid hq
        clear hq ht1
        have d3 := S.out.cell (ar3 v)
        have hnn : v.ds.n ≤ 140737488355328 := (ItV.ok_iff.1 S.out.ok).1.sm
        have HDL := hid ((ItV.ok_iff.1 S.out.ok).1.lenB)
        go_wp2_with fail
        refine (up_any v.ds.n _ (by omega)).mono ?_
        rintro e w2 ⟨rfl, rfl⟩
        dsimp only
        have HSZ : Hid (sizeF (f + 1) v.it = min (8 + up8 v.ds.n) 2147483648) := by
          show _ = _
          rw [ItV.it_eq, sizeF_d HT.out HQ.out]
          simp only [HDL.out]
        have hu : up8 v.ds.n ≤ 140737488355400 := by unfold up8; omega
        generalize up8 v.ds.n = q at *
        go_wp2_with fail
        go_ret
        exact ⟨by rw [HSZ.out]; exact i64_ret (by show min ((8 : Int) + (q : Int)) 2147483648 = _; omega), by rw [← HBE.out]; exact S.out.bel⟩
      | false =>
        have HSZ : Hid (sizeF (f + 1) v.it = 16) := by
          show _ = _
          rw [ItV.it_eq]
          exact sizeF_o HT.out hq
        clear hq
        go_wp2_with fail
        go_ret
        exact ⟨by rw [HSZ.out]; rfl, by rw [← HBE.out]; exact S.out.bel⟩
theorem Size_any (v : ItV) (w : World) (hv : v.ok w) : Calls Tryd.prog 38 #[.agg v.arr] w fun e w' => e = .returned (.int .i64 (sizeF 100 v.it : Nat)) ∧ Below w.heap.size w w' := by
  obtain ⟨b, hbe⟩ : ∃ b, b = w.heap.size := ⟨_, rfl⟩
  have S := hid (Bx.start hv)
  rw [← hbe] at S
  have HBE := hid hbe
  go_enter Tryd.func38, Tryd.ntmps38
  go_upto_region 1 with (fail)
  rw [← hbe]
  clear hbe hv
  generalize w.alloc (.cells v.arr 30) = W at *
  go_wp2_with (refine wpList_load_row rfl 30 _ rfl b rfl _ _ _ _ S.out.box Tryd.underlying30 rfl iSize ?_)
  refine (size_any 100 v _ 1 (by decide) (by decide) S.out.ok).mono ?_
  rintro e w6 ⟨rfl, hb6⟩
  dsimp only
  have S6 := hid (S.out.below hb6)
  clear S hb6
  have S := S6
  go_wp2_with fail
  go_ret
  exact ⟨rfl, by rw [← HBE.out]; exact S.out.bel⟩
theorem plain_it (v : ItV) : v.it.plain = plainP v.tag v.typ v.int v.data v.kids.length := by rw [ItV.it_eq]; simp [Itm.plain]
theorem plainE (k n : Int) (a c : Nat) (qk qd : Bool) (h1 : qk = (k == 1)) (h2 : qd = isD k) : (((((!qk) && (decide (0 < a))) || ((!qd) && (decide (0 < c)))) || ((qk || qd) && (n != 0))) : Bool) = !(!(k != 1 && decide (0 < a)) && (!(!isD k && decide (0 < c)) && !((k == 1 || isD k) && n != 0))) := by
  subst h1; subst h2
  simp only [bne]
  generalize (k == 1) = x
  generalize isD k = y
  generalize decide (0 < a) = z
  generalize decide (0 < c) = u
  generalize (n == 0) = m
  cases x <;> cases y <;> cases z <;> cases u <;> cases m <;> rfl
theorem plain_rest {t k n : Int} {d : List UInt8} {nk : Nat} (h1 : tagB t = true) (h2 : 1 ≤ k) (h3 : k ≤ 10) (h4 : (!(k != 1 && decide (0 < nk)) && (!(!isD k && decide (0 < d.length)) && !((k == 1 || isD k) && n != 0))) = true) : plainP t k n d nk = (numB k n && datB k d) := by
  unfold plainP
  simp only [Bool.and_eq_true] at h4
  rw [h1, h4.1, h4.2.1, h4.2.2]
  simp [h2, h3]
theorem plain_bad {t k n : Int} {d : List UInt8} {nk : Nat} (h4 : (!(k != 1 && decide (0 < nk)) && (!(!isD k && decide (0 < d.length)) && !((k == 1 || isD k) && n != 0))) = false) : plainP t k n d nk = false := by
  unfold plainP
  generalize (!(k != 1 && decide (0 < nk))) = x at *
  generalize (!(!isD k && decide (0 < d.length))) = y at *
  generalize (!((k == 1 || isD k) && n != 0)) = z at *
  cases x <;> cases y <;> cases z <;> simp at *
theorem plain_any (v : ItV) (w : World) (hv : v.ok w) (hT : UT w) : Calls Tryd.prog 56 #[.agg v.arr] w fun e w' => e = .returned (.bool v.it.plain) ∧ Below w.heap.size w w' := by
  have HT0 := hid hT
  clear hT
  obtain ⟨b, hbe⟩ : ∃ b, b = w.heap.size := ⟨_, rfl⟩
  have S := hid (Bx.start hv)
  rw [← hbe] at S
  have HBE := hid hbe
  go_enter Tryd.func56, Tryd.ntmps56
  go_upto_region 1 with (fail)
  rw [← hbe]
  clear hbe hv
  generalize w.alloc (.cells v.arr 30) = W at *
  have HKL := hid ((ItV.ok_iff.1 S.out.ok).2.1.klen)
  have HDL := hid ((ItV.ok_iff.1 S.out.ok).1.lenB)
  have HD := hid (ItV.ok_iff.1 S.out.ok).1
  have d0 := S.out.cell (ar0 v)
  have d1 := S.out.cell (ar1 v)
  go_wp2_with fail
  refine (tag_any v.tag _).mono ?_
  rintro e w2 ⟨rfl, rfl⟩
  dsimp only
  clear d0
  cases ht : tagB v.tag with
  | false =>
    clear d1
    have HP : Hid (v.it.plain = false) := by
      show _ = _
      rw [plain_it]
      unfold plainP
      rw [ht]; rfl
    go_wp2_with fail
    go_ret
    exact ⟨by rw [HP.out]; rfl, by rw [← HBE.out]; exact S.out.bel⟩
  | true =>
    by_cases h1 : v.typ < 1
    · 
      have HP : Hid (v.it.plain = false) := by
        show _ = _
        rw [plain_it]
        unfold plainP
        rw [show decide (1 ≤ v.typ) = false from decide_eq_false (by omega)]; simp
      go_wp2_with fail
      go_ret
      exact ⟨by rw [HP.out]; rfl, by rw [← HBE.out]; exact S.out.bel⟩
    by_cases h2 : 10 < v.typ
    · 
      have HP : Hid (v.it.plain = false) := by
        show _ = _
        rw [plain_it]
        unfold plainP
        rw [show decide (v.typ ≤ 10) = false from decide_eq_false (by omega)]; simp
      go_wp2_with fail
      go_ret
      exact ⟨by rw [HP.out]; rfl, by rw [← HBE.out]; exact S.out.bel⟩
    have HT := hid ht
    have H1 := hid (show 1 ≤ v.typ by omega)
    have H2 := hid (show v.typ ≤ 10 by omega)
    clear ht
    go_upto_region 3 with (fail)
    clear d1 h1 h2
    obtain ⟨qk, hqk⟩ : ∃ q, q = (v.typ == 1) := ⟨_, rfl⟩
    obtain ⟨qd, hqd⟩ : ∃ q, q = isD v.typ := ⟨_, rfl⟩
    have HQK := hid hqk; have HQD := hid hqd
    clear hqk hqd
    refine wp_region_each 8 [.eq (.pointer (some ⟨b, 1, none⟩)), .eq (.int .i64 v.typ), .eq (.bool qk), .eq (.pointer (some ⟨b, 1, none⟩)), .eq (.int .i64 v.typ), .eq (.bool qd), .eq (.bool qk), .eq (.bool qd)] (by kernel_rfl) (by kernel_rfl) (by kernel_rfl) (by kernel_rfl) ?_ ?_
    · all_goals
        refine each_5 ?_ ?_ ?_ ?_ ?_ (each_c ?_ (each_c ?_ (each_c ?_ (each_n))))
        · intro w1 hg Ar seen
          have s1 := seen.sl 1 (.pointer (some ⟨b, 0, none⟩))
          refine does_plain rfl fun K Q' hK => ?_
          go_simp; exact hK _ _ (Grow.refl _) rfl
        · intro w1 hg Ar seen
          have e0 := seen.de 0 19
          refine does_plain rfl fun K Q' hK => ?_
          have hc0 := cell_of_block (j := 1) ((hg.block _ (block_lt S.out.box)).trans S.out.box) (ar1 v)
          go_simp; exact hK _ _ (Grow.refl _) rfl
        · intro w1 hg Ar seen
          have e1 := seen.de 1 20
          refine does_plain rfl fun K Q' hK => ?_
          go_simp
          exact hK _ _ (Grow.refl _) (congrArg Value.bool HQK.out.symm)
        · intro w1 hg Ar seen
          have s1 := seen.sl 1 (.pointer (some ⟨b, 0, none⟩))
          refine does_plain rfl fun K Q' hK => ?_
          go_simp; exact hK _ _ (Grow.refl _) rfl
        · intro w1 hg Ar seen
          have e3 := seen.de 3 22
          refine does_plain rfl fun K Q' hK => ?_
          have hc0 := cell_of_block (j := 1) ((hg.block _ (block_lt S.out.box)).trans S.out.box) (ar1 v)
          go_simp; exact hK _ _ (Grow.refl _) rfl
        · intro w1 hg Ar seen
          have e4 := seen.de 4 23
          refine does_plain rfl fun K Q' hK => ?_
          go_simp
          refine (isData_any v.typ _).mono ?_
          rintro e u ⟨rfl, rfl⟩
          exact hK _ _ (Grow.refl _) (congrArg Value.bool HQD.out.symm)
        · intro w1 hg Ar seen
          have e2 := seen.de 2 21
          refine does_plain rfl fun K Q' hK => ?_
          go_simp; exact hK _ _ (Grow.refl _) rfl
        · intro w1 hg Ar seen
          have e5 := seen.de 5 24
          refine does_plain rfl fun K Q' hK => ?_
          go_simp; exact hK _ _ (Grow.refl _) rfl
    intro w1 hg
    refine upon_w' (js := [0, 1, 2, 3, 4, 5, 6, 7]) (by rfl) ?_
    refine upon_e (some 19) (upon_e (some 20) (upon_e (some 21) (upon_e (some 22) (upon_e (some 23) (upon_e (some 24) (upon_e (some 3) (upon_e (some 4) (upon_n ?_))))))))
    go_simp
    have S' := hid (S.out.below hg)
    have HD' := hid (HD.out.below hg)
    clear S hg HD
    have S := S'; have HD := HD'
    clear S' HD'
    go_simp
    go_upto_region 4 with (fail)
    go_cut [53] (fun x wx => x = .bool ((((!qk) && (decide (0 < v.ks.n))) || ((!qd) && (decide (0 < v.ds.n)))) || ((qk || qd) && (v.int != 0))) ∧ Bx w wx b v)
    case first =>
      rename_i J1 K1 HJ1 HK1
      refine wp_region_eachP 29 [.eq (.bool qk), .eq (.bool (!qk)), .eq (.bool (!qk)), .eq (if (!qk) = true then .pointer (some ⟨b, 4, none⟩) else undef), .eq (if (!qk) = true then .slice v.ks.a v.ks.n v.ks.c else undef), .eq (if (!qk) = true then .int .i64 (v.ks.n : Int) else undef), .eq (if (!qk) = true then .bool (decide (0 < v.ks.n)) else undef), .eq (.bool ((!qk) && (decide (0 < v.ks.n)))), .eq (.bool ((!qk) && (decide (0 < v.ks.n)))), .eq (if (!((!qk) && (decide (0 < v.ks.n)))) = true then .bool qd else undef), .eq (if (!((!qk) && (decide (0 < v.ks.n)))) = true then .bool (!qd) else undef), .eq (if (!((!qk) && (decide (0 < v.ks.n)))) = true then .bool (!qd) else undef), .eq (if ((!((!qk) && (decide (0 < v.ks.n)))) && (!qd)) = true then .pointer (some ⟨b, 3, none⟩) else undef), .eq (if ((!((!qk) && (decide (0 < v.ks.n)))) && (!qd)) = true then .slice v.ds.a v.ds.n v.ds.c else undef), .eq (if ((!((!qk) && (decide (0 < v.ks.n)))) && (!qd)) = true then .int .i64 (v.ds.n : Int) else undef), .eq (if ((!((!qk) && (decide (0 < v.ks.n)))) && (!qd)) = true then .bool (decide (0 < v.ds.n)) else undef), .eq (if (!((!qk) && (decide (0 < v.ks.n)))) = true then .bool ((!qd) && (decide (0 < v.ds.n))) else undef), .eq (.bool (((!qk) && (decide (0 < v.ks.n))) || ((!qd) && (decide (0 < v.ds.n))))), .eq (.bool (((!qk) && (decide (0 < v.ks.n))) || ((!qd) && (decide (0 < v.ds.n))))), .eq (if (!(((!qk) && (decide (0 < v.ks.n))) || ((!qd) && (decide (0 < v.ds.n))))) = true then .bool qk else undef), .eq (if (!(((!qk) && (decide (0 < v.ks.n))) || ((!qd) && (decide (0 < v.ds.n))))) = true then .bool qk else undef), .eq (if ((!(((!qk) && (decide (0 < v.ks.n))) || ((!qd) && (decide (0 < v.ds.n))))) && (!qk)) = true then .bool qd else undef), .eq (if (!(((!qk) && (decide (0 < v.ks.n))) || ((!qd) && (decide (0 < v.ds.n))))) = true then .bool (qk || qd) else undef), .eq (if (!(((!qk) && (decide (0 < v.ks.n))) || ((!qd) && (decide (0 < v.ds.n))))) = true then .bool (qk || qd) else undef), .eq (if ((!(((!qk) && (decide (0 < v.ks.n))) || ((!qd) && (decide (0 < v.ds.n))))) && (qk || qd)) = true then .pointer (some ⟨b, 2, none⟩) else undef), .eq (if ((!(((!qk) && (decide (0 < v.ks.n))) || ((!qd) && (decide (0 < v.ds.n))))) && (qk || qd)) = true then .int .i64 v.int else undef), .eq (if ((!(((!qk) && (decide (0 < v.ks.n))) || ((!qd) && (decide (0 < v.ds.n))))) && (qk || qd)) = true then .bool (v.int != 0) else undef), .eq (if (!(((!qk) && (decide (0 < v.ks.n))) || ((!qd) && (decide (0 < v.ds.n))))) = true then .bool ((qk || qd) && (v.int != 0)) else undef), .eq (.bool ((((!qk) && (decide (0 < v.ks.n))) || ((!qd) && (decide (0 < v.ds.n)))) || ((qk || qd) && (v.int != 0))))] (by kernel_rfl) ?_ ?_
      · all_goals
          refine each_5 ?_ ?_ ?_ ?_ ?_ (each_5 ?_ ?_ ?_ ?_ ?_ (each_5 ?_ ?_ ?_ ?_ ?_ (each_5 ?_ ?_ ?_ ?_ ?_ (each_5 ?_ ?_ ?_ ?_ ?_ (each_c ?_ (each_c ?_ (each_c ?_ (each_c ?_ (each_n)))))))))
          · intro w1 hg Ar seen
            have s3 := seen.sl 3 (.bool qk)
            refine does_plain rfl fun K Q' hK => ?_
            go_simp; exact hK _ _ (Grow.refl _) rfl
          · intro w1 hg Ar seen
            have e0 := seen.de 0 25
            refine does_plain rfl fun K Q' hK => ?_
            go_simp; exact hK _ _ (Grow.refl _) rfl
          · intro w1 hg Ar seen
            have e1 := seen.de 1 26
            refine does_plain rfl fun K Q' hK => ?_
            go_simp; exact hK _ _ (Grow.refl _) rfl
          · intro w1 hg Ar seen
            have s1 := seen.sl 1 (.pointer (some ⟨b, 0, none⟩))
            have eg := seen.de 2 27
            by_cases hc0 : ((!qk) : Bool) = true
            · have hc := hc0
              clear hc0
              rw [hc] at eg
              have hWi : (!qk) = true := by rw [hc] <;> rfl
              refine does_on rfl (by kernel_rfl) eg fun K Q' hK => ?_
              clear eg
              have hf : Hid ((.pointer (some ⟨b, 4, none⟩) : Value) = (if (!qk) = true then .pointer (some ⟨b, 4, none⟩) else undef)) := (if_t hWi).symm
              clear hWi hc
              go_simp; exact hK _ _ (Grow.refl _) hf.out
            · have hc : ((!qk) : Bool) = false := by rw [← Bool.not_eq_true]; exact hc0
              clear hc0
              rw [hc] at eg
              have hWi : (!qk) = false := by rw [hc] <;> rfl
              exact does_off rfl (by kernel_rfl) eg ne_ft (Grow.refl _) (show undef = _ from (if_f hWi).symm)
          · intro w1 hg Ar seen
            have e3 := seen.de 3 28
            have eg := seen.de 2 27
            by_cases hc0 : ((!qk) : Bool) = true
            · have hc := hc0
              clear hc0
              rw [hc] at eg
              have hWi : (!qk) = true := by rw [hc] <;> rfl
              refine does_on rfl (by kernel_rfl) eg fun K Q' hK => ?_
              clear eg
              replace e3 := e3.trans (congrArg some (if_t hWi))
              have hf : Hid ((.slice v.ks.a v.ks.n v.ks.c : Value) = (if (!qk) = true then .slice v.ks.a v.ks.n v.ks.c else undef)) := (if_t hWi).symm
              clear hWi hc
              have hc0 := cell_of_block (j := 4) ((hg.block _ (block_lt S.out.box)).trans S.out.box) (ar4 v)
              go_simp; exact hK _ _ (Grow.refl _) hf.out
            · have hc : ((!qk) : Bool) = false := by rw [← Bool.not_eq_true]; exact hc0
              clear hc0
              rw [hc] at eg
              have hWi : (!qk) = false := by rw [hc] <;> rfl
              exact does_off rfl (by kernel_rfl) eg ne_ft (Grow.refl _) (show undef = _ from (if_f hWi).symm)
          · intro w1 hg Ar seen
            have e4 := seen.de 4 29
            have eg := seen.de 2 27
            by_cases hc0 : ((!qk) : Bool) = true
            · have hc := hc0
              clear hc0
              rw [hc] at eg
              have hWi : (!qk) = true := by rw [hc] <;> rfl
              refine does_on rfl (by kernel_rfl) eg fun K Q' hK => ?_
              clear eg
              replace e4 := e4.trans (congrArg some (if_t hWi))
              have hf : Hid ((.int .i64 (v.ks.n : Int) : Value) = (if (!qk) = true then .int .i64 (v.ks.n : Int) else undef)) := (if_t hWi).symm
              clear hWi hc
              go_simp; exact hK _ _ (Grow.refl _) hf.out
            · have hc : ((!qk) : Bool) = false := by rw [← Bool.not_eq_true]; exact hc0
              clear hc0
              rw [hc] at eg
              have hWi : (!qk) = false := by rw [hc] <;> rfl
              exact does_off rfl (by kernel_rfl) eg ne_ft (Grow.refl _) (show undef = _ from (if_f hWi).symm)
          · intro w1 hg Ar seen
            have e5 := seen.de 5 30
            have eg := seen.de 2 27
            by_cases hc0 : ((!qk) : Bool) = true
            · have hc := hc0
              clear hc0
              rw [hc] at eg
              have hWi : (!qk) = true := by rw [hc] <;> rfl
              refine does_on rfl (by kernel_rfl) eg fun K Q' hK => ?_
              clear eg
              replace e5 := e5.trans (congrArg some (if_t hWi))
              have hf : Hid ((.bool (decide (0 < v.ks.n)) : Value) = (if (!qk) = true then .bool (decide (0 < v.ks.n)) else undef)) := (if_t hWi).symm
              clear hWi hc
              go_simp; exact hK _ _ (Grow.refl _) hf.out
            · have hc : ((!qk) : Bool) = false := by rw [← Bool.not_eq_true]; exact hc0
              clear hc0
              rw [hc] at eg
              have hWi : (!qk) = false := by rw [hc] <;> rfl
              exact does_off rfl (by kernel_rfl) eg ne_ft (Grow.refl _) (show undef = _ from (if_f hWi).symm)
          · intro w1 hg Ar seen
            have e2 := seen.de 2 27
            have e6 := seen.de 6 31
            refine does_plain rfl fun K Q' hK => ?_
            by_cases hp0 : ((!qk) : Bool) = true
            · have hp := hp0
              clear hp0
              rw [hp] at e2
              replace e6 := e6.trans (congrArg some (if_t (by rw [hp] <;> rfl)))
              have hv := hid (by show (Value.bool (decide (0 < v.ks.n))) = .bool ((!qk) && (decide (0 < v.ks.n))); rw [hp] <;> rfl)
              clear hp
              go_simp; exact hK _ _ (Grow.refl _) hv.out
            · have hp : ((!qk) : Bool) = false := by rw [← Bool.not_eq_true]; exact hp0
              clear hp0
              rw [hp] at e2
              clear e6
              have hv := hid (by show (Value.bool false) = .bool ((!qk) && (decide (0 < v.ks.n))); rw [hp] <;> rfl)
              clear hp
              go_simp; exact hK _ _ (Grow.refl _) hv.out
          · intro w1 hg Ar seen
            have e7 := seen.de 7 32
            refine does_plain rfl fun K Q' hK => ?_
            go_simp; exact hK _ _ (Grow.refl _) rfl
          · intro w1 hg Ar seen
            have s4 := seen.sl 4 (.bool qd)
            have eg := seen.de 8 33
            by_cases hc0 : (((!qk) && (decide (0 < v.ks.n))) : Bool) = true
            · have hc := hc0
              clear hc0
              rw [hc] at eg
              have hWi : (!((!qk) && (decide (0 < v.ks.n)))) = false := by rw [hc] <;> rfl
              exact does_off rfl (by kernel_rfl) eg ne_tf (Grow.refl _) (show undef = _ from (if_f hWi).symm)
            · have hc : (((!qk) && (decide (0 < v.ks.n))) : Bool) = false := by rw [← Bool.not_eq_true]; exact hc0
              clear hc0
              rw [hc] at eg
              have hWi : (!((!qk) && (decide (0 < v.ks.n)))) = true := by rw [hc] <;> rfl
              refine does_on rfl (by kernel_rfl) eg fun K Q' hK => ?_
              clear eg
              have hf : Hid ((.bool qd : Value) = (if (!((!qk) && (decide (0 < v.ks.n)))) = true then .bool qd else undef)) := (if_t hWi).symm
              clear hWi hc
              go_simp; exact hK _ _ (Grow.refl _) hf.out
          · intro w1 hg Ar seen
            have e9 := seen.de 9 34
            have eg := seen.de 8 33
            by_cases hc0 : (((!qk) && (decide (0 < v.ks.n))) : Bool) = true
            · have hc := hc0
              clear hc0
              rw [hc] at eg
              have hWi : (!((!qk) && (decide (0 < v.ks.n)))) = false := by rw [hc] <;> rfl
              exact does_off rfl (by kernel_rfl) eg ne_tf (Grow.refl _) (show undef = _ from (if_f hWi).symm)
            · have hc : (((!qk) && (decide (0 < v.ks.n))) : Bool) = false := by rw [← Bool.not_eq_true]; exact hc0
              clear hc0
              rw [hc] at eg
              have hWi : (!((!qk) && (decide (0 < v.ks.n)))) = true := by rw [hc] <;> rfl
              refine does_on rfl (by kernel_rfl) eg fun K Q' hK => ?_
              clear eg
              replace e9 := e9.trans (congrArg some (if_t hWi))
              have hf : Hid ((.bool (!qd) : Value) = (if (!((!qk) && (decide (0 < v.ks.n)))) = true then .bool (!qd) else undef)) := (if_t hWi).symm
              clear hWi hc
              go_simp; exact hK _ _ (Grow.refl _) hf.out
          · intro w1 hg Ar seen
            have e10 := seen.de 10 35
            have eg := seen.de 8 33
            by_cases hc0 : (((!qk) && (decide (0 < v.ks.n))) : Bool) = true
            · have hc := hc0
              clear hc0
              rw [hc] at eg
              have hWi : (!((!qk) && (decide (0 < v.ks.n)))) = false := by rw [hc] <;> rfl
              exact does_off rfl (by kernel_rfl) eg ne_tf (Grow.refl _) (show undef = _ from (if_f hWi).symm)
            · have hc : (((!qk) && (decide (0 < v.ks.n))) : Bool) = false := by rw [← Bool.not_eq_true]; exact hc0
              clear hc0
              rw [hc] at eg
              have hWi : (!((!qk) && (decide (0 < v.ks.n)))) = true := by rw [hc] <;> rfl
              refine does_on rfl (by kernel_rfl) eg fun K Q' hK => ?_
              clear eg
              replace e10 := e10.trans (congrArg some (if_t hWi))
              have hf : Hid ((.bool (!qd) : Value) = (if (!((!qk) && (decide (0 < v.ks.n)))) = true then .bool (!qd) else undef)) := (if_t hWi).symm
              clear hWi hc
              go_simp; exact hK _ _ (Grow.refl _) hf.out
          · intro w1 hg Ar seen
            have s1 := seen.sl 1 (.pointer (some ⟨b, 0, none⟩))
            have eg := seen.de 11 36
            by_cases hw : ((!((!qk) && (decide (0 < v.ks.n)))) : Bool) = true
            · replace eg := eg.trans (congrArg some (if_t hw))
              by_cases hc0 : ((!qd) : Bool) = true
              · have hc := hc0
                clear hc0
                rw [hc] at eg
                have hWi : ((!((!qk) && (decide (0 < v.ks.n)))) && (!qd)) = true := by rw [hw, hc] <;> rfl
                refine does_on rfl (by kernel_rfl) eg fun K Q' hK => ?_
                clear eg
                have hf : Hid ((.pointer (some ⟨b, 3, none⟩) : Value) = (if ((!((!qk) && (decide (0 < v.ks.n)))) && (!qd)) = true then .pointer (some ⟨b, 3, none⟩) else undef)) := (if_t hWi).symm
                clear hWi hc hw
                go_simp; exact hK _ _ (Grow.refl _) hf.out
              · have hc : ((!qd) : Bool) = false := by rw [← Bool.not_eq_true]; exact hc0
                clear hc0
                rw [hc] at eg
                have hWi : ((!((!qk) && (decide (0 < v.ks.n)))) && (!qd)) = false := by rw [hw, hc] <;> rfl
                exact does_off rfl (by kernel_rfl) eg ne_ft (Grow.refl _) (show undef = _ from (if_f hWi).symm)
            · have hw : ((!((!qk) && (decide (0 < v.ks.n)))) : Bool) = false := by rw [← Bool.not_eq_true]; exact hw
              have hWi : ((!((!qk) && (decide (0 < v.ks.n)))) && (!qd)) = false := by rw [hw] <;> rfl
              exact does_off rfl (by kernel_rfl) (eg.trans (congrArg some (if_f hw))) (ne_un _) (Grow.refl _) (show undef = _ from (if_f hWi).symm)
          · intro w1 hg Ar seen
            have e12 := seen.de 12 37
            have eg := seen.de 11 36
            by_cases hw : ((!((!qk) && (decide (0 < v.ks.n)))) : Bool) = true
            · replace eg := eg.trans (congrArg some (if_t hw))
              by_cases hc0 : ((!qd) : Bool) = true
              · have hc := hc0
                clear hc0
                rw [hc] at eg
                have hWi : ((!((!qk) && (decide (0 < v.ks.n)))) && (!qd)) = true := by rw [hw, hc] <;> rfl
                refine does_on rfl (by kernel_rfl) eg fun K Q' hK => ?_
                clear eg
                replace e12 := e12.trans (congrArg some (if_t hWi))
                have hf : Hid ((.slice v.ds.a v.ds.n v.ds.c : Value) = (if ((!((!qk) && (decide (0 < v.ks.n)))) && (!qd)) = true then .slice v.ds.a v.ds.n v.ds.c else undef)) := (if_t hWi).symm
                clear hWi hc hw
                have hc0 := cell_of_block (j := 3) ((hg.block _ (block_lt S.out.box)).trans S.out.box) (ar3 v)
                go_simp; exact hK _ _ (Grow.refl _) hf.out
              · have hc : ((!qd) : Bool) = false := by rw [← Bool.not_eq_true]; exact hc0
                clear hc0
                rw [hc] at eg
                have hWi : ((!((!qk) && (decide (0 < v.ks.n)))) && (!qd)) = false := by rw [hw, hc] <;> rfl
                exact does_off rfl (by kernel_rfl) eg ne_ft (Grow.refl _) (show undef = _ from (if_f hWi).symm)
            · have hw : ((!((!qk) && (decide (0 < v.ks.n)))) : Bool) = false := by rw [← Bool.not_eq_true]; exact hw
              have hWi : ((!((!qk) && (decide (0 < v.ks.n)))) && (!qd)) = false := by rw [hw] <;> rfl
              exact does_off rfl (by kernel_rfl) (eg.trans (congrArg some (if_f hw))) (ne_un _) (Grow.refl _) (show undef = _ from (if_f hWi).symm)
          · intro w1 hg Ar seen
            have e13 := seen.de 13 38
            have eg := seen.de 11 36
            by_cases hw : ((!((!qk) && (decide (0 < v.ks.n)))) : Bool) = true
            · replace eg := eg.trans (congrArg some (if_t hw))
              by_cases hc0 : ((!qd) : Bool) = true
              · have hc := hc0
                clear hc0
                rw [hc] at eg
                have hWi : ((!((!qk) && (decide (0 < v.ks.n)))) && (!qd)) = true := by rw [hw, hc] <;> rfl
                refine does_on rfl (by kernel_rfl) eg fun K Q' hK => ?_
                clear eg
                replace e13 := e13.trans (congrArg some (if_t hWi))
                have hf : Hid ((.int .i64 (v.ds.n : Int) : Value) = (if ((!((!qk) && (decide (0 < v.ks.n)))) && (!qd)) = true then .int .i64 (v.ds.n : Int) else undef)) := (if_t hWi).symm
                clear hWi hc hw
                go_simp; exact hK _ _ (Grow.refl _) hf.out
              · have hc : ((!qd) : Bool) = false := by rw [← Bool.not_eq_true]; exact hc0
                clear hc0
                rw [hc] at eg
                have hWi : ((!((!qk) && (decide (0 < v.ks.n)))) && (!qd)) = false := by rw [hw, hc] <;> rfl
                exact does_off rfl (by kernel_rfl) eg ne_ft (Grow.refl _) (show undef = _ from (if_f hWi).symm)
            · have hw : ((!((!qk) && (decide (0 < v.ks.n)))) : Bool) = false := by rw [← Bool.not_eq_true]; exact hw
              have hWi : ((!((!qk) && (decide (0 < v.ks.n)))) && (!qd)) = false := by rw [hw] <;> rfl
              exact does_off rfl (by kernel_rfl) (eg.trans (congrArg some (if_f hw))) (ne_un _) (Grow.refl _) (show undef = _ from (if_f hWi).symm)
          · intro w1 hg Ar seen
            have e14 := seen.de 14 39
            have eg := seen.de 11 36
            by_cases hw : ((!((!qk) && (decide (0 < v.ks.n)))) : Bool) = true
            · replace eg := eg.trans (congrArg some (if_t hw))
              by_cases hc0 : ((!qd) : Bool) = true
              · have hc := hc0
                clear hc0
                rw [hc] at eg
                have hWi : ((!((!qk) && (decide (0 < v.ks.n)))) && (!qd)) = true := by rw [hw, hc] <;> rfl
                refine does_on rfl (by kernel_rfl) eg fun K Q' hK => ?_
                clear eg
                replace e14 := e14.trans (congrArg some (if_t hWi))
                have hf : Hid ((.bool (decide (0 < v.ds.n)) : Value) = (if ((!((!qk) && (decide (0 < v.ks.n)))) && (!qd)) = true then .bool (decide (0 < v.ds.n)) else undef)) := (if_t hWi).symm
                clear hWi hc hw
                go_simp; exact hK _ _ (Grow.refl _) hf.out
              · have hc : ((!qd) : Bool) = false := by rw [← Bool.not_eq_true]; exact hc0
                clear hc0
                rw [hc] at eg
                have hWi : ((!((!qk) && (decide (0 < v.ks.n)))) && (!qd)) = false := by rw [hw, hc] <;> rfl
                exact does_off rfl (by kernel_rfl) eg ne_ft (Grow.refl _) (show undef = _ from (if_f hWi).symm)
            · have hw : ((!((!qk) && (decide (0 < v.ks.n)))) : Bool) = false := by rw [← Bool.not_eq_true]; exact hw
              have hWi : ((!((!qk) && (decide (0 < v.ks.n)))) && (!qd)) = false := by rw [hw] <;> rfl
              exact does_off rfl (by kernel_rfl) (eg.trans (congrArg some (if_f hw))) (ne_un _) (Grow.refl _) (show undef = _ from (if_f hWi).symm)
          · intro w1 hg Ar seen
            have e11 := seen.de 11 36
            have e15 := seen.de 15 40
            have eg := seen.de 8 33
            by_cases hc0 : (((!qk) && (decide (0 < v.ks.n))) : Bool) = true
            · have hc := hc0
              clear hc0
              rw [hc] at eg
              have hWi : (!((!qk) && (decide (0 < v.ks.n)))) = false := by rw [hc] <;> rfl
              exact does_off rfl (by kernel_rfl) eg ne_tf (Grow.refl _) (show undef = _ from (if_f hWi).symm)
            · have hc : (((!qk) && (decide (0 < v.ks.n))) : Bool) = false := by rw [← Bool.not_eq_true]; exact hc0
              clear hc0
              rw [hc] at eg
              have hWi : (!((!qk) && (decide (0 < v.ks.n)))) = true := by rw [hc] <;> rfl
              refine does_on rfl (by kernel_rfl) eg fun K Q' hK => ?_
              clear eg
              replace e11 := e11.trans (congrArg some (if_t hWi))
              have hf : Hid ((.bool ((!qd) && (decide (0 < v.ds.n))) : Value) = (if (!((!qk) && (decide (0 < v.ks.n)))) = true then .bool ((!qd) && (decide (0 < v.ds.n))) else undef)) := (if_t hWi).symm
              by_cases hp0 : ((!qd) : Bool) = true
              · have hp := hp0
                clear hp0
                rw [hp] at e11
                replace e15 := e15.trans (congrArg some (if_t (by rw [hWi, hp] <;> rfl)))
                clear hf
                have hv := hid (by show (Value.bool (decide (0 < v.ds.n))) = (if (!((!qk) && (decide (0 < v.ks.n)))) = true then .bool ((!qd) && (decide (0 < v.ds.n))) else undef); rw [if_t hWi, hp]; rfl)
                clear hp
                clear hWi hc
                go_simp; exact hK _ _ (Grow.refl _) hv.out
              · have hp : ((!qd) : Bool) = false := by rw [← Bool.not_eq_true]; exact hp0
                clear hp0
                rw [hp] at e11
                clear e15
                clear hf
                have hv := hid (by show (Value.bool false) = (if (!((!qk) && (decide (0 < v.ks.n)))) = true then .bool ((!qd) && (decide (0 < v.ds.n))) else undef); rw [if_t hWi, hp]; rfl)
                clear hp
                clear hWi hc
                go_simp; exact hK _ _ (Grow.refl _) hv.out
          · intro w1 hg Ar seen
            have e8 := seen.de 8 33
            have e16 := seen.de 16 41
            refine does_plain rfl fun K Q' hK => ?_
            by_cases hp0 : (((!qk) && (decide (0 < v.ks.n))) : Bool) = true
            · have hp := hp0
              clear hp0
              rw [hp] at e8
              clear e16
              have hv := hid (by show (Value.bool true) = .bool (((!qk) && (decide (0 < v.ks.n))) || ((!qd) && (decide (0 < v.ds.n)))); rw [hp] <;> rfl)
              clear hp
              go_simp; exact hK _ _ (Grow.refl _) hv.out
            · have hp : (((!qk) && (decide (0 < v.ks.n))) : Bool) = false := by rw [← Bool.not_eq_true]; exact hp0
              clear hp0
              rw [hp] at e8
              replace e16 := e16.trans (congrArg some (if_t (by rw [hp] <;> rfl)))
              have hv := hid (by show (Value.bool ((!qd) && (decide (0 < v.ds.n)))) = .bool (((!qk) && (decide (0 < v.ks.n))) || ((!qd) && (decide (0 < v.ds.n)))); rw [hp] <;> rfl)
              clear hp
              go_simp; exact hK _ _ (Grow.refl _) hv.out
          · intro w1 hg Ar seen
            have e17 := seen.de 17 42
            refine does_plain rfl fun K Q' hK => ?_
            go_simp; exact hK _ _ (Grow.refl _) rfl
          · intro w1 hg Ar seen
            have s3 := seen.sl 3 (.bool qk)
            have eg := seen.de 18 43
            by_cases hc0 : ((((!qk) && (decide (0 < v.ks.n))) || ((!qd) && (decide (0 < v.ds.n)))) : Bool) = true
            · have hc := hc0
              clear hc0
              rw [hc] at eg
              have hWi : (!(((!qk) && (decide (0 < v.ks.n))) || ((!qd) && (decide (0 < v.ds.n))))) = false := by rw [hc] <;> rfl
              exact does_off rfl (by kernel_rfl) eg ne_tf (Grow.refl _) (show undef = _ from (if_f hWi).symm)
            · have hc : ((((!qk) && (decide (0 < v.ks.n))) || ((!qd) && (decide (0 < v.ds.n)))) : Bool) = false := by rw [← Bool.not_eq_true]; exact hc0
              clear hc0
              rw [hc] at eg
              have hWi : (!(((!qk) && (decide (0 < v.ks.n))) || ((!qd) && (decide (0 < v.ds.n))))) = true := by rw [hc] <;> rfl
              refine does_on rfl (by kernel_rfl) eg fun K Q' hK => ?_
              clear eg
              have hf : Hid ((.bool qk : Value) = (if (!(((!qk) && (decide (0 < v.ks.n))) || ((!qd) && (decide (0 < v.ds.n))))) = true then .bool qk else undef)) := (if_t hWi).symm
              clear hWi hc
              go_simp; exact hK _ _ (Grow.refl _) hf.out
          · intro w1 hg Ar seen
            have e19 := seen.de 19 44
            have eg := seen.de 18 43
            by_cases hc0 : ((((!qk) && (decide (0 < v.ks.n))) || ((!qd) && (decide (0 < v.ds.n)))) : Bool) = true
            · have hc := hc0
              clear hc0
              rw [hc] at eg
              have hWi : (!(((!qk) && (decide (0 < v.ks.n))) || ((!qd) && (decide (0 < v.ds.n))))) = false := by rw [hc] <;> rfl
              exact does_off rfl (by kernel_rfl) eg ne_tf (Grow.refl _) (show undef = _ from (if_f hWi).symm)
            · have hc : ((((!qk) && (decide (0 < v.ks.n))) || ((!qd) && (decide (0 < v.ds.n)))) : Bool) = false := by rw [← Bool.not_eq_true]; exact hc0
              clear hc0
              rw [hc] at eg
              have hWi : (!(((!qk) && (decide (0 < v.ks.n))) || ((!qd) && (decide (0 < v.ds.n))))) = true := by rw [hc] <;> rfl
              refine does_on rfl (by kernel_rfl) eg fun K Q' hK => ?_
              clear eg
              replace e19 := e19.trans (congrArg some (if_t hWi))
              have hf : Hid ((.bool qk : Value) = (if (!(((!qk) && (decide (0 < v.ks.n))) || ((!qd) && (decide (0 < v.ds.n))))) = true then .bool qk else undef)) := (if_t hWi).symm
              clear hWi hc
              go_simp; exact hK _ _ (Grow.refl _) hf.out
          · intro w1 hg Ar seen
            have s4 := seen.sl 4 (.bool qd)
            have eg := seen.de 20 45
            by_cases hw : ((!(((!qk) && (decide (0 < v.ks.n))) || ((!qd) && (decide (0 < v.ds.n))))) : Bool) = true
            · replace eg := eg.trans (congrArg some (if_t hw))
              by_cases hc0 : (qk : Bool) = true
              · have hc := hc0
                clear hc0
                rw [hc] at eg
                have hWi : ((!(((!qk) && (decide (0 < v.ks.n))) || ((!qd) && (decide (0 < v.ds.n))))) && (!qk)) = false := by rw [hw, hc] <;> rfl
                exact does_off rfl (by kernel_rfl) eg ne_tf (Grow.refl _) (show undef = _ from (if_f hWi).symm)
              · have hc : (qk : Bool) = false := by rw [← Bool.not_eq_true]; exact hc0
                clear hc0
                rw [hc] at eg
                have hWi : ((!(((!qk) && (decide (0 < v.ks.n))) || ((!qd) && (decide (0 < v.ds.n))))) && (!qk)) = true := by rw [hw, hc] <;> rfl
                refine does_on rfl (by kernel_rfl) eg fun K Q' hK => ?_
                clear eg
                have hf : Hid ((.bool qd : Value) = (if ((!(((!qk) && (decide (0 < v.ks.n))) || ((!qd) && (decide (0 < v.ds.n))))) && (!qk)) = true then .bool qd else undef)) := (if_t hWi).symm
                clear hWi hc hw
                go_simp; exact hK _ _ (Grow.refl _) hf.out
            · have hw : ((!(((!qk) && (decide (0 < v.ks.n))) || ((!qd) && (decide (0 < v.ds.n))))) : Bool) = false := by rw [← Bool.not_eq_true]; exact hw
              have hWi : ((!(((!qk) && (decide (0 < v.ks.n))) || ((!qd) && (decide (0 < v.ds.n))))) && (!qk)) = false := by rw [hw] <;> rfl
              exact does_off rfl (by kernel_rfl) (eg.trans (congrArg some (if_f hw))) (ne_un _) (Grow.refl _) (show undef = _ from (if_f hWi).symm)
          · intro w1 hg Ar seen
            have e20 := seen.de 20 45
            have e21 := seen.de 21 46
            have eg := seen.de 18 43
            by_cases hc0 : ((((!qk) && (decide (0 < v.ks.n))) || ((!qd) && (decide (0 < v.ds.n)))) : Bool) = true
            · have hc := hc0
              clear hc0
              rw [hc] at eg
              have hWi : (!(((!qk) && (decide (0 < v.ks.n))) || ((!qd) && (decide (0 < v.ds.n))))) = false := by rw [hc] <;> rfl
              exact does_off rfl (by kernel_rfl) eg ne_tf (Grow.refl _) (show undef = _ from (if_f hWi).symm)
            · have hc : ((((!qk) && (decide (0 < v.ks.n))) || ((!qd) && (decide (0 < v.ds.n)))) : Bool) = false := by rw [← Bool.not_eq_true]; exact hc0
              clear hc0
              rw [hc] at eg
              have hWi : (!(((!qk) && (decide (0 < v.ks.n))) || ((!qd) && (decide (0 < v.ds.n))))) = true := by rw [hc] <;> rfl
              refine does_on rfl (by kernel_rfl) eg fun K Q' hK => ?_
              clear eg
              replace e20 := e20.trans (congrArg some (if_t hWi))
              have hf : Hid ((.bool (qk || qd) : Value) = (if (!(((!qk) && (decide (0 < v.ks.n))) || ((!qd) && (decide (0 < v.ds.n))))) = true then .bool (qk || qd) else undef)) := (if_t hWi).symm
              by_cases hp0 : (qk : Bool) = true
              · have hp := hp0
                clear hp0
                rw [hp] at e20
                clear e21
                clear hf
                have hv := hid (by show (Value.bool true) = (if (!(((!qk) && (decide (0 < v.ks.n))) || ((!qd) && (decide (0 < v.ds.n))))) = true then .bool (qk || qd) else undef); rw [if_t hWi, hp]; rfl)
                clear hp
                clear hWi hc
                go_simp; exact hK _ _ (Grow.refl _) hv.out
              · have hp : (qk : Bool) = false := by rw [← Bool.not_eq_true]; exact hp0
                clear hp0
                rw [hp] at e20
                replace e21 := e21.trans (congrArg some (if_t (by rw [hWi, hp] <;> rfl)))
                clear hf
                have hv := hid (by show (Value.bool qd) = (if (!(((!qk) && (decide (0 < v.ks.n))) || ((!qd) && (decide (0 < v.ds.n))))) = true then .bool (qk || qd) else undef); rw [if_t hWi, hp]; rfl)
                clear hp
                clear hWi hc
                go_simp; exact hK _ _ (Grow.refl _) hv.out
          · intro w1 hg Ar seen
            have e22 := seen.de 22 47
            have eg := seen.de 18 43
            by_cases hc0 : ((((!qk) && (decide (0 < v.ks.n))) || ((!qd) && (decide (0 < v.ds.n)))) : Bool) = true
            · have hc := hc0
              clear hc0
              rw [hc] at eg
              have hWi : (!(((!qk) && (decide (0 < v.ks.n))) || ((!qd) && (decide (0 < v.ds.n))))) = false := by rw [hc] <;> rfl
              exact does_off rfl (by kernel_rfl) eg ne_tf (Grow.refl _) (show undef = _ from (if_f hWi).symm)
            · have hc : ((((!qk) && (decide (0 < v.ks.n))) || ((!qd) && (decide (0 < v.ds.n)))) : Bool) = false := by rw [← Bool.not_eq_true]; exact hc0
              clear hc0
              rw [hc] at eg
              have hWi : (!(((!qk) && (decide (0 < v.ks.n))) || ((!qd) && (decide (0 < v.ds.n))))) = true := by rw [hc] <;> rfl
              refine does_on rfl (by kernel_rfl) eg fun K Q' hK => ?_
              clear eg
              replace e22 := e22.trans (congrArg some (if_t hWi))
              have hf : Hid ((.bool (qk || qd) : Value) = (if (!(((!qk) && (decide (0 < v.ks.n))) || ((!qd) && (decide (0 < v.ds.n))))) = true then .bool (qk || qd) else undef)) := (if_t hWi).symm
              clear hWi hc
              go_simp; exact hK _ _ (Grow.refl _) hf.out
          · intro w1 hg Ar seen
            have s1 := seen.sl 1 (.pointer (some ⟨b, 0, none⟩))
            have eg := seen.de 23 48
            by_cases hw : ((!(((!qk) && (decide (0 < v.ks.n))) || ((!qd) && (decide (0 < v.ds.n))))) : Bool) = true
            · replace eg := eg.trans (congrArg some (if_t hw))
              by_cases hc0 : ((qk || qd) : Bool) = true
              · have hc := hc0
                clear hc0
                rw [hc] at eg
                have hWi : ((!(((!qk) && (decide (0 < v.ks.n))) || ((!qd) && (decide (0 < v.ds.n))))) && (qk || qd)) = true := by rw [hw, hc] <;> rfl
                refine does_on rfl (by kernel_rfl) eg fun K Q' hK => ?_
                clear eg
                have hf : Hid ((.pointer (some ⟨b, 2, none⟩) : Value) = (if ((!(((!qk) && (decide (0 < v.ks.n))) || ((!qd) && (decide (0 < v.ds.n))))) && (qk || qd)) = true then .pointer (some ⟨b, 2, none⟩) else undef)) := (if_t hWi).symm
                clear hWi hc hw
                go_simp; exact hK _ _ (Grow.refl _) hf.out
              · have hc : ((qk || qd) : Bool) = false := by rw [← Bool.not_eq_true]; exact hc0
                clear hc0
                rw [hc] at eg
                have hWi : ((!(((!qk) && (decide (0 < v.ks.n))) || ((!qd) && (decide (0 < v.ds.n))))) && (qk || qd)) = false := by rw [hw, hc] <;> rfl
                exact does_off rfl (by kernel_rfl) eg ne_ft (Grow.refl _) (show undef = _ from (if_f hWi).symm)
            · have hw : ((!(((!qk) && (decide (0 < v.ks.n))) || ((!qd) && (decide (0 < v.ds.n))))) : Bool) = false := by rw [← Bool.not_eq_true]; exact hw
              have hWi : ((!(((!qk) && (decide (0 < v.ks.n))) || ((!qd) && (decide (0 < v.ds.n))))) && (qk || qd)) = false := by rw [hw] <;> rfl
              exact does_off rfl (by kernel_rfl) (eg.trans (congrArg some (if_f hw))) (ne_un _) (Grow.refl _) (show undef = _ from (if_f hWi).symm)
          · intro w1 hg Ar seen
            have e24 := seen.de 24 49
            have eg := seen.de 23 48
            by_cases hw : ((!(((!qk) && (decide (0 < v.ks.n))) || ((!qd) && (decide (0 < v.ds.n))))) : Bool) = true
            · replace eg := eg.trans (congrArg some (if_t hw))
              by_cases hc0 : ((qk || qd) : Bool) = true
              · have hc := hc0
                clear hc0
                rw [hc] at eg
                have hWi : ((!(((!qk) && (decide (0 < v.ks.n))) || ((!qd) && (decide (0 < v.ds.n))))) && (qk || qd)) = true := by rw [hw, hc] <;> rfl
                refine does_on rfl (by kernel_rfl) eg fun K Q' hK => ?_
                clear eg
                replace e24 := e24.trans (congrArg some (if_t hWi))
                have hf : Hid ((.int .i64 v.int : Value) = (if ((!(((!qk) && (decide (0 < v.ks.n))) || ((!qd) && (decide (0 < v.ds.n))))) && (qk || qd)) = true then .int .i64 v.int else undef)) := (if_t hWi).symm
                clear hWi hc hw
                have hc0 := cell_of_block (j := 2) ((hg.block _ (block_lt S.out.box)).trans S.out.box) (ar2 v)
                go_simp; exact hK _ _ (Grow.refl _) hf.out
              · have hc : ((qk || qd) : Bool) = false := by rw [← Bool.not_eq_true]; exact hc0
                clear hc0
                rw [hc] at eg
                have hWi : ((!(((!qk) && (decide (0 < v.ks.n))) || ((!qd) && (decide (0 < v.ds.n))))) && (qk || qd)) = false := by rw [hw, hc] <;> rfl
                exact does_off rfl (by kernel_rfl) eg ne_ft (Grow.refl _) (show undef = _ from (if_f hWi).symm)
            · have hw : ((!(((!qk) && (decide (0 < v.ks.n))) || ((!qd) && (decide (0 < v.ds.n))))) : Bool) = false := by rw [← Bool.not_eq_true]; exact hw
              have hWi : ((!(((!qk) && (decide (0 < v.ks.n))) || ((!qd) && (decide (0 < v.ds.n))))) && (qk || qd)) = false := by rw [hw] <;> rfl
              exact does_off rfl (by kernel_rfl) (eg.trans (congrArg some (if_f hw))) (ne_un _) (Grow.refl _) (show undef = _ from (if_f hWi).symm)
          · intro w1 hg Ar seen
            have e25 := seen.de 25 50
            have eg := seen.de 23 48
            by_cases hw : ((!(((!qk) && (decide (0 < v.ks.n))) || ((!qd) && (decide (0 < v.ds.n))))) : Bool) = true
            · replace eg := eg.trans (congrArg some (if_t hw))
              by_cases hc0 : ((qk || qd) : Bool) = true
              · have hc := hc0
                clear hc0
                rw [hc] at eg
                have hWi : ((!(((!qk) && (decide (0 < v.ks.n))) || ((!qd) && (decide (0 < v.ds.n))))) && (qk || qd)) = true := by rw [hw, hc] <;> rfl
                refine does_on rfl (by kernel_rfl) eg fun K Q' hK => ?_
                clear eg
                replace e25 := e25.trans (congrArg some (if_t hWi))
                have hf : Hid ((.bool (v.int != 0) : Value) = (if ((!(((!qk) && (decide (0 < v.ks.n))) || ((!qd) && (decide (0 < v.ds.n))))) && (qk || qd)) = true then .bool (v.int != 0) else undef)) := (if_t hWi).symm
                clear hWi hc hw
                go_simp; exact hK _ _ (Grow.refl _) hf.out
              · have hc : ((qk || qd) : Bool) = false := by rw [← Bool.not_eq_true]; exact hc0
                clear hc0
                rw [hc] at eg
                have hWi : ((!(((!qk) && (decide (0 < v.ks.n))) || ((!qd) && (decide (0 < v.ds.n))))) && (qk || qd)) = false := by rw [hw, hc] <;> rfl
                exact does_off rfl (by kernel_rfl) eg ne_ft (Grow.refl _) (show undef = _ from (if_f hWi).symm)
            · have hw : ((!(((!qk) && (decide (0 < v.ks.n))) || ((!qd) && (decide (0 < v.ds.n))))) : Bool) = false := by rw [← Bool.not_eq_true]; exact hw
              have hWi : ((!(((!qk) && (decide (0 < v.ks.n))) || ((!qd) && (decide (0 < v.ds.n))))) && (qk || qd)) = false := by rw [hw] <;> rfl
              exact does_off rfl (by kernel_rfl) (eg.trans (congrArg some (if_f hw))) (ne_un _) (Grow.refl _) (show undef = _ from (if_f hWi).symm)
          · intro w1 hg Ar seen
            have e23 := seen.de 23 48
            have e26 := seen.de 26 51
            have eg := seen.de 18 43
            by_cases hc0 : ((((!qk) && (decide (0 < v.ks.n))) || ((!qd) && (decide (0 < v.ds.n)))) : Bool) = true
            · have hc := hc0
              clear hc0
              rw [hc] at eg
              have hWi : (!(((!qk) && (decide (0 < v.ks.n))) || ((!qd) && (decide (0 < v.ds.n))))) = false := by rw [hc] <;> rfl
              exact does_off rfl (by kernel_rfl) eg ne_tf (Grow.refl _) (show undef = _ from (if_f hWi).symm)
            · have hc : ((((!qk) && (decide (0 < v.ks.n))) || ((!qd) && (decide (0 < v.ds.n)))) : Bool) = false := by rw [← Bool.not_eq_true]; exact hc0
              clear hc0
              rw [hc] at eg
              have hWi : (!(((!qk) && (decide (0 < v.ks.n))) || ((!qd) && (decide (0 < v.ds.n))))) = true := by rw [hc] <;> rfl
              refine does_on rfl (by kernel_rfl) eg fun K Q' hK => ?_
              clear eg
              replace e23 := e23.trans (congrArg some (if_t hWi))
              have hf : Hid ((.bool ((qk || qd) && (v.int != 0)) : Value) = (if (!(((!qk) && (decide (0 < v.ks.n))) || ((!qd) && (decide (0 < v.ds.n))))) = true then .bool ((qk || qd) && (v.int != 0)) else undef)) := (if_t hWi).symm
              by_cases hp0 : ((qk || qd) : Bool) = true
              · have hp := hp0
                clear hp0
                rw [hp] at e23
                replace e26 := e26.trans (congrArg some (if_t (by rw [hWi, hp] <;> rfl)))
                clear hf
                have hv := hid (by show (Value.bool (v.int != 0)) = (if (!(((!qk) && (decide (0 < v.ks.n))) || ((!qd) && (decide (0 < v.ds.n))))) = true then .bool ((qk || qd) && (v.int != 0)) else undef); rw [if_t hWi, hp]; rfl)
                clear hp
                clear hWi hc
                go_simp; exact hK _ _ (Grow.refl _) hv.out
              · have hp : ((qk || qd) : Bool) = false := by rw [← Bool.not_eq_true]; exact hp0
                clear hp0
                rw [hp] at e23
                clear e26
                clear hf
                have hv := hid (by show (Value.bool false) = (if (!(((!qk) && (decide (0 < v.ks.n))) || ((!qd) && (decide (0 < v.ds.n))))) = true then .bool ((qk || qd) && (v.int != 0)) else undef); rw [if_t hWi, hp]; rfl)
                clear hp
                clear hWi hc
                go_simp; exact hK _ _ (Grow.refl _) hv.out
          · intro w1 hg Ar seen
            have e18 := seen.de 18 43
            have e27 := seen.de 27 52
            refine does_plain rfl fun K Q' hK => ?_
            by_cases hp0 : ((((!qk) && (decide (0 < v.ks.n))) || ((!qd) && (decide (0 < v.ds.n)))) : Bool) = true
            · have hp := hp0
              clear hp0
              rw [hp] at e18
              clear e27
              have hv := hid (by show (Value.bool true) = .bool ((((!qk) && (decide (0 < v.ks.n))) || ((!qd) && (decide (0 < v.ds.n)))) || ((qk || qd) && (v.int != 0))); rw [hp] <;> rfl)
              clear hp
              go_simp; exact hK _ _ (Grow.refl _) hv.out
            · have hp : ((((!qk) && (decide (0 < v.ks.n))) || ((!qd) && (decide (0 < v.ds.n)))) : Bool) = false := by rw [← Bool.not_eq_true]; exact hp0
              clear hp0
              rw [hp] at e18
              replace e27 := e27.trans (congrArg some (if_t (by rw [hp] <;> rfl)))
              have hv := hid (by show (Value.bool ((qk || qd) && (v.int != 0))) = .bool ((((!qk) && (decide (0 < v.ks.n))) || ((!qd) && (decide (0 < v.ds.n)))) || ((qk || qd) && (v.int != 0))); rw [hp] <;> rfl)
              clear hp
              go_simp; exact hK _ _ (Grow.refl _) hv.out
      intro w1 hg
      refine upon_w' (js := [0, 1, 2, 3, 4, 5, 6, 7, 8, 9, 10, 11, 12, 13, 14, 15, 16, 17, 18, 19, 20, 21, 22, 23, 24, 25, 26, 27, 28]) (by rfl) ?_
      refine upon_x (some 25) fun v25 => upon_x (some 26) fun v26 => upon_x (some 27) fun v27 => upon_x (some 28) fun v28 => upon_x (some 29) fun v29 => upon_x (some 30) fun v30 => upon_x (some 31) fun v31 => upon_x (some 32) fun v32 => upon_x (some 33) fun v33 => upon_x (some 34) fun v34 => upon_x (some 35) fun v35 => upon_x (some 36) fun v36 => upon_x (some 37) fun v37 => upon_x (some 38) fun v38 => upon_x (some 39) fun v39 => upon_x (some 40) fun v40 => upon_x (some 41) fun v41 => upon_x (some 42) fun v42 => upon_x (some 43) fun v43 => upon_x (some 44) fun v44 => upon_x (some 45) fun v45 => upon_x (some 46) fun v46 => upon_x (some 47) fun v47 => upon_x (some 48) fun v48 => upon_x (some 49) fun v49 => upon_x (some 50) fun v50 => upon_x (some 51) fun v51 => upon_x (some 52) fun v52 => upon_e (some 53) (upon_n ?_)
      go_simp
      have S' := S.out.below hg
      refine wpList_nil (HK1 _ _ (Met.intro (HJ1 _ _ ?_)))
      (repeat apply Exists.intro)
      refine ⟨?_, rfl⟩
      exact ⟨rfl, S'⟩
    case rest =>
      obtain ⟨rfl, hs⟩ := hcut
      clear S
      have S := hid hs
      clear hs HD
      have HE := hid (plainE v.typ v.int v.ks.n v.ds.n qk qd HQK.out HQD.out)
      generalize ((((!qk) && (decide (0 < v.ks.n))) || ((!qd) && (decide (0 < v.ds.n)))) || ((qk || qd) && (v.int != 0))) = E at *
      cases E with
      | true =>
        have HP : Hid (v.it.plain = false) := by
          show _ = _
          rw [plain_it]
          exact plain_bad (by have := HE.out; rw [HKL.out, HDL.out]; simpa only [Bool.not_eq_true'] using this.symm)
        go_wp2_with fail
        go_ret
        exact ⟨by rw [HP.out]; rfl, by rw [← HBE.out]; exact S.out.bel⟩
      | false =>
        have HP : Hid (v.it.plain = (numB v.typ v.int && datB v.typ v.data)) := by
          show _ = _
          rw [plain_it]
          exact plain_rest HT.out H1.out H2.out (by have := HE.out; rw [HKL.out, HDL.out]; simpa only [Bool.not_eq_false'] using this.symm)
        have d1 := S.out.cell (ar1 v)
        have d2 := S.out.cell (ar2 v)
        have d3 := S.out.cell (ar3 v)
        go_wp2_with fail
        refine (number_any v.typ v.int _).mono ?_
        rintro e w2 ⟨rfl, rfl⟩
        dsimp only
        cases hn : numB v.typ v.int with
        | false =>
          have HP2 : Hid (v.it.plain = false) := by show _ = _; rw [HP.out, hn]; rfl
          go_wp2_with fail
          go_ret
          exact ⟨by rw [HP2.out]; rfl, by rw [← HBE.out]; exact S.out.bel⟩
        | true =>
          have HP2 : Hid (v.it.plain = datB v.typ v.data) := by show _ = _; rw [HP.out, hn]; rfl
          have hsd := (ItV.ok_iff.1 S.out.ok).1
          go_wp2_with fail
          refine (data_any v.typ v.ds.a v.ds.n v.ds.c v.data _ hsd.rdB hsd.no hsd.nc hsd.sm (HT0.out.below (by rw [← HBE.out]; exact S.out.bel))).mono ?_
          rintro e w2 ⟨rfl, hb⟩
          dsimp only
          have S6 := hid (S.out.below hb)
          clear S hb d1 d2 d3 hsd
          have S := S6
          go_wp2_with fail
          go_ret
          exact ⟨by rw [HP2.out]; rfl, by rw [← HBE.out]; exact S.out.bel⟩
end Go.Proofs.YteenglgnakenmaaDoor
