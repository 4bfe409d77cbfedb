/- ttlv.Same. -/
import Derived.Test.YtmpajhacigjloaaDoorTtl8
import Derived.Test.YtmpajhacigjloaaDoorTtlL
import Derived.Test.YtmpajhacigjloaaDoorEqual
namespace Go.Proofs.YtmpajhacigjloaaDoor
open Go.RowKit
set_option linter.unusedVariables false
set_option linter.unusedSimpArgs false
set_option maxRecDepth 100000
set_option maxHeartbeats 3200000
open Classical in
noncomputable def sameL (a b : List Itm) : Bool := decide (a = b)
theorem sameL_yes {a b : List Itm} (h : a = b) : sameL a b = true := by simp [sameL, h]
theorem sameL_no {a b : List Itm} (h : a ≠ b) : sameL a b = false := by simp [sameL, h]
structure EfSt (la lb : List ItV) (w : World) (y : Value) (wr : World) : Prop where
  ex : ∃ k : Nat, k ≤ la.length ∧ y = .int .i64 k ∧ (la.take k).map ItV.it = (lb.take k).map ItV.it ∧ Below w.heap.size w wr
theorem eqFunc_any (la lb : List ItV) (a1 : Option Addr) (n1 c1 : Nat) (a2 : Option Addr) (n2 c2 : Nat) (ih : ∀ x ∈ la, ∀ (y : ItV) (w : World), x.ok w → y.ok w → Calls Tryd.prog 20 #[.agg x.arr, .agg y.arr] w fun e w' => e = .returned (.bool (sameI x.it y.it)) ∧ Below w.heap.size w w')
    (w : World) (h1 : SlR w ⟨a1, n1, c1⟩ 5 (itmCells la)) (h2 : SlR w ⟨a2, n2, c2⟩ 5 (itmCells lb)) (o1 : ∀ x ∈ la, x.ok w) (o2 : ∀ x ∈ lb, x.ok w) :
    Calls Tryd.prog 33 #[.slice a1 n1 c1, .slice a2 n2 c2, .func (.func 20) #[] #[]] w fun e w' => e = .returned (.bool (sameL (la.map ItV.it) (lb.map ItV.it))) ∧ Below w.heap.size w w' := by
  have IH := hid ih; have H1 := hid h1; have H2 := hid h2; have O1 := hid o1; have O2 := hid o2
  have hk1 : la.length = n1 := h1.klen
  have hk2 : lb.length = n2 := h2.klen
  have sm1 : n1 ≤ 1099511627776 := h1.sm
  have sm2 : n2 ≤ 1099511627776 := h2.sm
  have HK1 := hid hk1; have HK2 := hid hk2
  clear ih h1 h2 o1 o2 hk1 hk2
  by_cases he : n1 = n2
  · have HE := hid he
    have hnn : n1 ≤ 1099511627776 := sm1
    clear sm1 sm2
    have hez : ((n1 : Int) != (n2 : Int)) = false := by simp; omega
    clear he
    go_enter Tryd.func33, Tryd.ntmps33
    go_wp2_with fail
    go_loopw [17] (fun y wr => EfSt la lb w y wr) (fun y _ => n1 - (intOf y).toNat)
    case atStart => exact ⟨⟨0, Nat.zero_le _, rfl, rfl, Below.refl _ _⟩⟩
    case round =>
      obtain ⟨k, hk, rfl, hl, hb⟩ := hrel.ex
      clear hrel
      rw [HK1.out] at hk
      have HL := hid hl; have HB := hid hb
      clear hl hb
      by_cases hlt : k < n1
      · obtain ⟨bx, ox, x, hax, hx, hrx⟩ := H1.out.row hlt
        dsimp only at hax
        subst hax
        obtain ⟨by', oy, y, hay, hy, hry⟩ := H2.out.row (k := k) (by show k < n2; rw [← HE.out]; exact hlt)
        dsimp only at hay
        subst hay
        have hlt2 : (k : Int) < (n2 : Int) := by have := HE.out; omega
        have hx2 := (O1.out x (List.mem_of_getElem? hx)).below HB.out
        have hy2 := (O2.out y (List.mem_of_getElem? hy)).below HB.out
        have HRX := hid (range_later HB.out hrx)
        have HMX := hid (List.mem_of_getElem? hx)
        have HT : Hid ((la.take (k + 1)).map ItV.it = (la.take k).map ItV.it ++ [x.it] ∧ (lb.take (k + 1)).map ItV.it = (lb.take k).map ItV.it ++ [y.it]) := ⟨take_map_snoc hx, take_map_snoc hy⟩
        have HNE : Hid (x.it ≠ y.it → sameL (la.map ItV.it) (lb.map ItV.it) = false) := fun hne => sameL_no fun h => hne (by
          have h5 := congrArg (fun l => l[k]?) h
          simpa [hx, hy] using h5)
        have HX := hid hx2; have HY := hid hy2; have HRY := hid (range_later HB.out hry)
        clear hx2 hy2 hrx hry hx hy
        go_upto_region 6 with (first | (refine wpList_load_mid rfl 29 _ rfl bx (ox + k * 5) rfl x.arr.toList _ HRX.out Tryd.underlying29 rfl iSize ?_; simp only [Array.toArray_toList]) | (refine wpList_alloc_obj rfl 29 rfl _ iZero ?_) | (refine wpList_store_obj rfl 29 _ _ rfl wr.heap.size rfl _ rfl _ _ (block_new wr _) rfl iSize (arr_one x) ?_; intro w5 hb5 hc5 hs5; have KB1 := hid hb5; have HC5 := hid hc5; clear hb5 hc5 hs5))
        have hbel : Below wr.heap.size wr w5 := ((Below.refl _ wr).alloc (Nat.le_refl _) _).trans (HC5.out.below (fun k hk => by rw [List.mem_singleton.1 hk]; exact Nat.le_refl _) (by simp))
        have HB2 := hid (HB.out.trans (Below.mono hbel HB.out.size))
        have HX2 := hid (HX.out.below hbel); have HY2 := hid (HY.out.below hbel); have HRY2 := hid (range_later hbel HRY.out)
        clear hbel HC5 HB HX HY HRX HRY
        generalize wr.heap.size = k1 at *
        go_upto_region 7 with (first | (refine wpList_load_mid rfl 29 _ rfl by' (oy + k * 5) rfl y.arr.toList _ HRY2.out Tryd.underlying29 rfl iSize ?_; simp only [Array.toArray_toList]) | (refine wpList_alloc_obj rfl 29 rfl _ iZero ?_) | (refine wpList_store_obj rfl 29 _ _ rfl w5.heap.size rfl _ rfl _ _ (block_new w5 _) rfl iSize (arr_one y) ?_; intro w6 hb5 hc5 hs5; have KB2 := hid hb5; have HC5 := hid hc5; clear hb5 hc5 hs5))
        have hbel : Below w5.heap.size w5 w6 := ((Below.refl _ w5).alloc (Nat.le_refl _) _).trans (HC5.out.below (fun k hk => by rw [List.mem_singleton.1 hk]; exact Nat.le_refl _) (by simp))
        have HB3 := hid (HB2.out.trans (Below.mono hbel HB2.out.size))
        have HX3 := hid (HX2.out.below hbel); have HY3 := hid (HY2.out.below hbel)
        have KB3 := hid ((hbel.block _ (block_lt KB1.out)).trans KB1.out)
        clear hbel HC5 HB2 HX2 HY2 HRY2 KB1
        generalize w5.heap.size = k2 at *
        go_wp2_with (first | (refine wpList_load_row rfl 29 _ rfl k1 rfl _ _ _ _ KB3.out Tryd.underlying29 rfl iSize ?_) | (refine wpList_load_row rfl 29 _ rfl k2 rfl _ _ _ _ KB2.out Tryd.underlying29 rfl iSize ?_))
        refine (IH.out x HMX.out y _ HX3.out HY3.out).mono ?_
        rintro e w7 ⟨rfl, hb⟩
        dsimp only
        have HB4 := hid (HB3.out.trans (Below.mono hb HB3.out.size))
        clear hb HB3 KB2 KB3
        cases hs : sameI x.it y.it with
        | true =>
          have HTK : Hid ((la.take (k + 1)).map ItV.it = (lb.take (k + 1)).map ItV.it) := by show _ = _; rw [HT.out.1, HT.out.2, HL.out, sameI_eq hs]
          go_wp2_with fail
          have HRR : EfSt la lb w (.int .i64 ((k : Int) + 1)) w7 := ⟨⟨k + 1, by have := HK1.out; omega, by go_num, HTK.out, HB4.out⟩⟩
          go_roundw
          case rel => first | exact HRR | ((repeat apply Exists.intro); exact HRR) | ((repeat apply Exists.intro); exact ⟨HRR, rfl⟩)
          case measure => (simp [intOf] <;> omega)
        | false =>
          have HS := hid (HNE.out (sameI_ne hs))
          go_wp2_with fail
          go_ret
          exact ⟨by rw [HS.out]; rfl, HB4.out⟩
      · obtain rfl : k = n1 := by omega
        have HS : Hid (sameL (la.map ItV.it) (lb.map ItV.it) = true) := by
          refine sameL_yes ?_
          have h1 := HL.out
          have h2 := HK1.out; have h3 := HK2.out; have h4 := HE.out
          rwa [List.take_of_length_le (by omega), List.take_of_length_le (by omega)] at h1
        go_wp2_with fail
        go_ret
        exact ⟨by rw [HS.out]; rfl, HB.out⟩
  · have HS : Hid (sameL (la.map ItV.it) (lb.map ItV.it) = false) := sameL_no fun h => he (by
      have h5 := congrArg List.length h
      simp only [List.length_map] at h5
      rw [← HK1.out, ← HK2.out]; exact h5)
    have hez : ((n1 : Int) != (n2 : Int)) = true := by simp; omega
    go_enter Tryd.func33, Tryd.ntmps33
    go_wp2_with fail
    go_ret
    exact ⟨by rw [HS.out]; rfl, Below.refl _ _⟩
theorem same_any : ∀ (a c : ItV) (w : World), a.ok w → c.ok w → Calls Tryd.prog 20 #[.agg a.arr, .agg c.arr] w fun e w' => e = .returned (.bool (sameI a.it c.it)) ∧ Below w.heap.size w w' := by
  refine ItV.ind (C := fun a => ∀ (c : ItV) (w : World), a.ok w → c.ok w → Calls Tryd.prog 20 #[.agg a.arr, .agg c.arr] w fun e w' => e = .returned (.bool (sameI a.it c.it)) ∧ Below w.heap.size w w') ?_
  intro a ih c w ha hc
  have IH := hid ih; have HA := hid ha; have HC := hid hc
  clear ih ha hc
  generalize hbe : w.heap.size = b
  have HBE := hid hbe; clear hbe
  go_enter Tryd.func20, Tryd.ntmps20
  go_upto_region 1 with (fail)
  have B0 := hid (Bx2.start (T := 29) (T' := 29) (cs := a.arr) (zs := c.arr) (w := w) HBE.out)
  have hbel : Below w.heap.size w ((w.alloc (.cells a.arr 29)).alloc (.cells c.arr 29)) := ((Below.refl _ w).alloc (Nat.le_refl _) (.cells a.arr 29)).alloc (by simp) (.cells c.arr 29)
  have HA0 := hid (HA.out.below hbel); have HC0 := hid (HC.out.below hbel)
  clear hbel HA HC
  go_simp
  rw [HBE.out]
  generalize (w.alloc (.cells a.arr 29)).alloc (.cells c.arr 29) = W at *
  have a0 := cell_of_block (j := 0) B0.out.box (ar0 a)
  have a1 := cell_of_block (j := 1) B0.out.box (ar1 a)
  have a2 := cell_of_block (j := 2) B0.out.box (ar2 a)
  have a3 := cell_of_block (j := 3) B0.out.box (ar3 a)
  have a4 := cell_of_block (j := 4) B0.out.box (ar4 a)
  have d0 := cell_of_block (j := 0) B0.out.res (ar0 c)
  have d1 := cell_of_block (j := 1) B0.out.res (ar1 c)
  have d2 := cell_of_block (j := 2) B0.out.res (ar2 c)
  have d3 := cell_of_block (j := 3) B0.out.res (ar3 c)
  have d4 := cell_of_block (j := 4) B0.out.res (ar4 c)
  by_cases e0 : a.tag = c.tag
  · by_cases e1 : a.typ = c.typ
    · by_cases e2 : a.int = c.int
      · have E0 := hid e0; have E1 := hid e1; have E2 := hid e2
        rw [← e0] at d0; rw [← e1] at d1; rw [← e2] at d2
        clear e0 e1 e2
        go_wp2_with fail
        refine (equalB_any a.ds.a c.ds.a a.ds.n a.ds.c c.ds.n c.ds.c a.data c.data _ (ItV.ok_iff.1 HA0.out).1.rdB (ItV.ok_iff.1 HC0.out).1.rdB (ItV.ok_iff.1 HA0.out).1.sm).mono ?_
        rintro e w2 ⟨rfl, hb2⟩
        dsimp only
        have B2 := hid (B0.out.below hb2); have HA2 := hid (HA0.out.below hb2); have HC2 := hid (HC0.out.below hb2)
        clear hb2 B0 HA0 HC0 a0 a1 a2 a3 d0 d1 d2 d3 a4 d4
        have a4 := cell_of_block (j := 4) B2.out.box (ar4 a)
        have d4 := cell_of_block (j := 4) B2.out.res (ar4 c)
        by_cases e3 : a.data = c.data
        · have E3 := hid e3
          rw [decide_eq_true e3]
          clear e3
          go_wp2_with fail
          refine (eqFunc_any a.kids c.kids a.ks.a a.ks.n a.ks.c c.ks.a c.ks.n c.ks.c IH.out _ (ItV.ok_iff.1 HA2.out).2.1 (ItV.ok_iff.1 HC2.out).2.1 (ItV.ok_iff.1 HA2.out).2.2 (ItV.ok_iff.1 HC2.out).2.2).mono ?_
          rintro e w3 ⟨rfl, hb3⟩
          dsimp only
          have B3 := hid (B2.out.below hb3)
          clear hb3 a4 d4
          have HS : Hid (sameI a.it c.it = sameL (a.kids.map ItV.it) (c.kids.map ItV.it)) := by
            show _ = _
            by_cases h : a.kids.map ItV.it = c.kids.map ItV.it
            · rw [sameL_yes h, it_same E0.out E1.out E2.out E3.out h]
            · rw [sameL_no h, it_ne fun hh => h hh.2.2.2.2]
          go_wp2_with fail
          go_ret
          exact ⟨by rw [HS.out]; rfl, B3.out.bel⟩
        · have HS : Hid (sameI a.it c.it = false) := it_ne fun h => e3 h.2.2.2.1
          rw [decide_eq_false e3]
          clear e3
          go_wp2_with fail
          go_ret
          exact ⟨by rw [HS.out]; rfl, B2.out.bel⟩
      · have HS : Hid (sameI a.it c.it = false) := it_ne fun h => e2 h.2.2.1
        have hne : (a.int == c.int) = false := by simpa using e2
        rw [← e0] at d0; rw [← e1] at d1
        clear e0 e1
        go_wp2_with fail
        go_ret
        exact ⟨by rw [HS.out]; rfl, B0.out.bel⟩
    · have HS : Hid (sameI a.it c.it = false) := it_ne fun h => e1 h.2.1
      have hne : (a.typ == c.typ) = false := by simpa using e1
      rw [← e0] at d0
      clear e0
      go_wp2_with fail
      go_ret
      exact ⟨by rw [HS.out]; rfl, B0.out.bel⟩
  · have HS : Hid (sameI a.it c.it = false) := it_ne fun h => e0 h.1
    have hne : (a.tag == c.tag) = false := by simpa using e0
    go_wp2_with fail
    go_ret
    exact ⟨by rw [HS.out]; rfl, B0.out.bel⟩
def kItm : Itm := ⟨4325408, 2, 8, [], []⟩
def kV : ItV := { tag := 4325408, typ := 2, int := 8 }
def kB : List UInt8 := [66, 0, 32, 2, 0, 0, 0, 4, 0, 0, 0, 8, 0, 0, 0, 0]
theorem kRight : rightI kItm = true := by decide +kernel
theorem kEnc : kItm.enc = kB := by decide +kernel
theorem kDec : decP kB = (kItm, 0) := by
  rw [← kEnc]
  exact decP_enc kRight ((fit_iff _).2 ⟨by decide, fun x hx => by cases hx⟩)
theorem kBuild (w : World) : (Instr.build 29 #[(0, .int .i64 4325408), (1, .int .i64 2), (2, .int .i64 8)]).run Tryd.prog w = .ok (.agg kV.arr) w := by kernel_rfl
theorem kOk (w : World) : kV.ok w := ItV.ok_iff.2 ⟨SlC.nil _, SlR.nil _ _, fun x hx => by cases hx⟩
theorem GB.of_own {w : World} {base : Nat} {e : TypeId} {a : Option Addr} {n c : Nat} {l : List UInt8} (h : w.ownsRow base e 1 (.slice a n c) n (l.map B8)) (hn : n ≤ 140737488355328) : GB w a n c l := by
  obtain ⟨h1, h2, _⟩ := own_slice h
  refine ⟨RdB.of_own h, h2, h1, fun q off sp hq => ?_, hn⟩
  rcases h.2 with ⟨hv, _⟩ | ⟨g, cap, cur, hv, _, hh, _⟩
  · simp only [Value.slice.injEq] at hv
    rw [hv.1] at hq; cases hq
  · simp only [Value.slice.injEq] at hv
    rw [hv.1] at hq
    cases hq
    exact (Array.getElem?_eq_some_iff.1 hh).1
theorem known6_any (w : World) (hT : UT w) : Calls Tryd.prog 13 #[] w fun e w' => e = .returned (.bool true) ∧ Below w.heap.size w w' := by
  have HT := hid hT
  clear hT
  go_enter Tryd.func13, Tryd.ntmps13
  go_wp2_with (refine wpList_build_obj rfl 29 _ rfl #[(0, .int .i64 4325408), (1, .int .i64 2), (2, .int .i64 8)] rfl _ (kBuild _) ?_)
  refine (Encode_any kV _ (kOk _) HT.out).mono ?_
  rintro e w2 ⟨hb, h⟩
  have hki : kV.it = kItm := by rw [ItV.it_eq]; rfl
  rw [hki] at h
  rcases h with ⟨h, _⟩ | ⟨_, a, n, c, rfl, hown⟩
  · rw [kRight] at h; cases h
  dsimp only
  rw [kEnc] at hown
  obtain rfl : n = 16 := by have := hown.1; simp [kB] at this; omega
  have HB := hid hb; have HG := hid (GB.of_own hown (by decide))
  clear hb hown hki
  go_wp2_with fail
  refine (Decode_any a 16 c kB _ HG.out (HT.out.below HB.out)).mono ?_
  rintro e w3 ⟨hb3, v, rfl, hvi, hvo, hvf⟩
  rw [kDec] at hvi
  rw [kDec]
  dsimp only at hvi ⊢
  have hvt : v.tag = 4325408 ∧ v.int = 8 := by
    rw [ItV.it_eq] at hvi
    have h1 := congrArg Itm.tag hvi
    have h2 := congrArg Itm.int hvi
    exact ⟨h1, h2⟩
  have HVT := hid hvt
  have HB3 := hid (HB.out.trans (Below.mono hb3 HB.out.size))
  have HG3 := hid (HG.out.below hb3)
  clear hb3 hvi hvo hvf hvt HG HB
  go_upto_region 3 with (first | (refine wpList_alloc_obj rfl 29 rfl _ iZero ?_) | (refine wpList_store_obj rfl 29 _ _ rfl w3.heap.size rfl v.arr rfl _ _ (block_new w3 _) rfl iSize (arr_one v) ?_; intro w5 hb5 hc5 hs5; have KB := hid hb5; have HC5 := hid hc5; clear hb5 hc5 hs5))
  have hbel : Below w3.heap.size w3 w5 := ((Below.refl _ w3).alloc (Nat.le_refl _) _).trans (HC5.out.below (fun k hk => by rw [List.mem_singleton.1 hk]; exact Nat.le_refl _) (by simp))
  have HB5 := hid (HB3.out.trans (Below.mono hbel HB3.out.size))
  have HG5 := hid (HG3.out.below hbel)
  clear hbel HC5 HB3 HG3
  generalize w3.heap.size = kb at *
  have d0 := cell_of_block (j := 0) KB.out (ar0 v)
  have d2 := cell_of_block (j := 2) KB.out (ar2 v)
  rw [HVT.out.1] at d0
  rw [HVT.out.2] at d2
  have hcv := run_bytes_str (P := Tryd.prog) HG5.out.rd c 23 9 5 Tryd.underlying23 Tryd.underlying5 Tryd.underlying9
  go_wp2_with fail
  go_ret
  exact ⟨rfl, HB5.out⟩
end Go.Proofs.YtmpajhacigjloaaDoor
