/- ttlv: an item's walk; Right. -/
import Derived.Test.YteenglgnakenmaaDoorTtl2
namespace Go.Proofs.YteenglgnakenmaaDoor
open Go.RowKit
set_option linter.unusedVariables false
set_option linter.unusedSimpArgs false
set_option maxRecDepth 100000
set_option maxHeartbeats 3200000
theorem load_onI {P : Program} {w : World} {ops : Array Oper} {rest : List Oper} {o : Oper} {a : Act} {Q : Exit → Act → World → Prop} (ty : TypeId) (x : Operand) (ho : o.op = .load ty x) (hgd : Region.wanted o (yielded ops a.tmps) = true)
    (b : Nat) (hx : a.eval x = .pointer (some ⟨b, 0, none⟩)) (t : TypeId) (cs : Array Value) (fr : Nat × Nat) (d : TypeDesc) (hg : w.heap[b]? = some (.cells cs t fr))
    (hu : P.underlying ty = some d) (hd : (match d with | .struct _ | .array _ _ => true | _ => false) = true) (hi : (P.info? ty).map (·.size) = some cs.size)
    (h : wpList P ops Q rest (a.put o.dst (.agg cs)) w) : wpList P ops Q (o :: rest) a w :=
  wpList_load_on hgd ty x ho b hx t cs fr d hg hu hd hi h
/-- A small block is none of the tables. -/
theorem UT.apart {w : World} {p : Nat} {C : Array Value} {T : TypeId} {fr : Nat × Nat} (h : UT w) (hp : w.heap[p]? = some (.cells C T fr)) (hC : C.size < 32) : p ≠ 0 ∧ p ≠ 1 := by
  constructor
  · rintro rfl
    have h1 := h.1 31 (by decide)
    have h2 := cell_of_row w 0 31 C T fr hp
    rw [show C[31]? = none from Array.getElem?_eq_none (by omega)] at h2
    have h3 : w.cell? ⟨0, 31, none⟩ = some (.int .u8 (Lib.firstT 31 : Int)) := h1
    rw [h2] at h3
    cases h3
  · rintro rfl
    have h1 := (h.2 15 (by decide)).2
    have h2 := cell_of_row w 1 31 C T fr hp
    rw [show C[31]? = none from Array.getElem?_eq_none (by omega)] at h2
    have h3 : w.cell? ⟨1, 31, none⟩ = some (.int .u8 (Lib.accHi 15 : Int)) := h1
    rw [h2] at h3
    cases h3
theorem UT.keepC {w w' : World} {p : Nat} (h : UT w) (hc : Chg [p] w w') (hp : p ≠ 0 ∧ p ≠ 1) : UT w' :=
  ⟨fun c hl => hc.cell (h.1 c hl) (by show (0 : Nat) ∉ [p]; simp; omega), fun i hi => ⟨hc.cell (h.2 i hi).1 (by show (1 : Nat) ∉ [p]; simp; omega), hc.cell (h.2 i hi).2 (by show (1 : Nat) ∉ [p]; simp; omega)⟩⟩
theorem walkL_snoc {one : Itm → Nat → Option Nat} : ∀ (l : List Itm) (c c' : Nat) (x : Itm), walkL one l c = some c' → walkL one (l ++ [x]) c = one x c'
  | [], c, c', x, h => by
    simp only [walkL, Option.some.injEq] at h
    subst h
    simp only [List.nil_append, walkL]
    cases one x c <;> rfl
  | y :: l, c, c', x, h => by
    simp only [List.cons_append, walkL] at h ⊢
    cases h1 : one y c with
    | none => rw [h1] at h; cases h
    | some d =>
      rw [h1] at h
      exact walkL_snoc l d c' x h
theorem walkL_stop {one : Itm → Nat → Option Nat} : ∀ (l r : List Itm) (c : Nat), walkL one l c = none → walkL one (l ++ r) c = none
  | [], r, c, h => by simp [walkL] at h
  | y :: l, r, c, h => by
    simp only [List.cons_append, walkL] at h ⊢
    cases h1 : one y c with
    | none => rfl
    | some d =>
      rw [h1] at h
      exact walkL_stop l r d h
theorem walkL_le {one : Itm → Nat → Option Nat} (h1 : ∀ x c c', one x c = some c' → c' ≤ 600 ∧ c ≤ c') : ∀ (l : List Itm) (c c' : Nat), walkL one l c = some c' → c ≤ 600 → c' ≤ 600 ∧ c ≤ c'
  | [], c, c', h, hc => by simp only [walkL, Option.some.injEq] at h; subst h; exact ⟨hc, Nat.le_refl _⟩
  | y :: l, c, c', h, hc => by
    simp only [walkL] at h
    cases h2 : one y c with
    | none => rw [h2] at h; cases h
    | some d =>
      rw [h2] at h
      have k1 := h1 y c d h2
      have k2 := walkL_le h1 l d c' h k1.1
      exact ⟨k2.1, Nat.le_trans k1.2 k2.2⟩
theorem walkP_le : ∀ (f : Nat) (x : Itm) (c c' : Nat), walkP f x c = some c' → c' ≤ 600 ∧ c ≤ c'
  | 0, x, c, c', h => by simp [walkP] at h
  | f + 1, x, c, c', h => by
    rw [walkP] at h
    split at h
    · rename_i hc
      have := walkL_le (walkP_le f) x.kids (c + 1) c' h hc.1
      omega
    · cases h
/-- What stands while an item is walked over: its box b, the counter p. -/
structure WkSt (w W : World) (b p : Nat) (v : ItV) (c : Nat) : Prop where
  box : W.heap[b]? = some (.cells v.arr 30 (0, 0))
  ok : v.ok W
  cn : W.heap[p]? = some (.cells #[.int .i64 c] 3 (0, 0))
  chg : Chg [p] w W
  pl : p < w.heap.size
  pb : p < b
  pf : ∀ k ∈ v.foot, k ≠ p
  wb : w.heap.size ≤ b
section
variable {w W W' : World} {b p : Nat} {v : ItV} {c c' : Nat}
theorem WkSt.start (hv : v.ok w) (hc : w.heap[p]? = some (.cells #[.int .i64 c] 3 (0, 0))) (hf : ∀ k ∈ v.foot, k ≠ p) : WkSt w (w.alloc (.cells v.arr 30)) w.heap.size p v c :=
  have hb : Below w.heap.size w (w.alloc (.cells v.arr 30)) := (Below.refl _ _).alloc (Nat.le_refl _) _
  ⟨block_new _ _, hv.below hb, (hb.block _ (block_lt hc)).trans hc, Chg.of_below hb _, block_lt hc, block_lt hc, hf, Nat.le_refl _⟩
theorem WkSt.below (h : WkSt w W b p v c) (hb : Below W.heap.size W W') : WkSt w W' b p v c :=
  ⟨(hb.block _ (block_lt h.box)).trans h.box, h.ok.below hb, (hb.block _ (block_lt h.cn)).trans h.cn, h.chg.trans (Chg.of_below hb [p]) (fun k hk => .inl hk), h.pl, h.pb, h.pf, h.wb⟩
theorem WkSt.turn (h : WkSt w W b p v c) (hc : Chg [p] W W') (hn : W'.heap[p]? = some (.cells #[.int .i64 c'] 3 (0, 0))) : WkSt w W' b p v c' :=
  ⟨(hc.block _ (block_lt h.box) (by have := h.pb; simp; omega)).trans h.box, ItV.ok.keep hc h.ok (fun k hk hm => h.pf k hk (List.mem_singleton.1 hm)), hn, h.chg.trans hc (fun k hk => .inl hk), h.pl, h.pb, h.pf, h.wb⟩
theorem WkSt.put (h : WkSt w W b p v c) (z : Int) (hz : z = (c' : Int)) : WkSt w (W.setCell ⟨p, 0, none⟩ (.int .i64 z)) b p v c' := by
  subst hz
  exact h.turn ((Chg.refl [p] W).setCell (.inl (by simp)) _) (block_setCell h.cn _)
theorem WkSt.cell (h : WkSt w W b p v c) {j : Nat} {u : Value} (hu : v.arr[j]? = some u) : W.cell? ⟨b, j, none⟩ = some u := cell_of_block h.box hu
end
/-- What the walk answers. -/
def WalkRes (r : Option Nat) (p : Nat) (w : World) (e : Ending) (w' : World) : Prop :=
  Chg [p] w w' ∧ match r with
  | some c' => e = .returned (.bool true) ∧ w'.heap[p]? = some (.cells #[.int .i64 c'] 3 (0, 0))
  | none => e = .returned (.bool false)
structure WlSt (f : Nat) (v : ItV) (w : World) (b p c : Nat) (y : Value) (wr : World) : Prop where
  ex : ∃ (k m : Nat), k ≤ v.ks.n ∧ y = .int .i64 k ∧ m ≤ 600 ∧ walkL (walkP f) ((v.kids.take k).map ItV.it) (c + 1) = some m ∧ WkSt w wr b p v m
theorem walk_any : ∀ (f : Nat) (v : ItV) (w : World) (dz : Int) (p c : Nat), dz + f = 13 → 1 ≤ dz → v.ok w → c ≤ 600 → w.heap[p]? = some (.cells #[.int .i64 c] 3 (0, 0)) → (∀ k ∈ v.foot, k ≠ p) → UT w →
    Calls Tryd.prog 37 #[.agg v.arr, .int .i64 dz, .pointer (some ⟨p, 0, none⟩)] w (WalkRes (walkP f v.it c) p w) := by
  intro f
  induction f with
  | zero =>
    intro v w dz p c hd h1 hv hc6 hc hf hT
    obtain rfl : dz = 13 := by omega
    have S := hid (WkSt.start hv hc hf)
    clear hv hc hf hT
    have HP : Hid (walkP 0 v.it c = none) := rfl
    obtain ⟨b, hbe⟩ : ∃ b, b = w.heap.size := ⟨_, rfl⟩
    rw [← hbe] at S
    go_enter Tryd.func37, Tryd.ntmps37
    go_upto_region 1 with (fail)
    rw [← hbe]
    generalize w.alloc (.cells v.arr 30) = W at *
    have dc := cell_of_block (j := 0) S.out.cn rfl
    have hfz := frozen_of_block (j := 0) S.out.cn
    have hw : IntKind.i64.wrap ((c : Int) + 1) = (c : Int) + 1 := IntWalk.i64_in _ (by omega)
    go_upto_region 2 with (fail)
    have S2 := hid (S.out.put (c' := c + 1) ((c : Int) + 1) (by omega))
    clear S dc hfz
    have S := S2
    clear S2
    generalize W.setCell ⟨p, 0, none⟩ (.int .i64 ((c : Int) + 1)) = W1 at *
    go_wp2_with fail
    go_ret
    unfold WalkRes
    rw [HP.out]
    exact ⟨S.out.chg, rfl⟩
  | succ f ih =>
    intro v w dz p c hd h1 hv hc6 hc hf hT
    have IH := hid ih
    have HT := hid hT
    have HPA := hid (hT.apart hc (by show (1 : Nat) < 32; decide))
    have hdz : ¬ (12 : Int) < dz := by omega
    have HD := hid (show dz + 1 + (f : Int) = 13 by omega)
    have HD1 := hid (show 1 ≤ dz + 1 by omega)
    have hwd : IntKind.i64.wrap (dz + 1) = dz + 1 := IntWalk.i64_in _ (by omega)
    clear ih hd
    have S := hid (WkSt.start hv hc hf)
    clear hv hc hf hT
    obtain ⟨b, hbe⟩ : ∃ b, b = w.heap.size := ⟨_, rfl⟩
    rw [← hbe] at S
    go_enter Tryd.func37, Tryd.ntmps37
    go_upto_region 1 with (fail)
    rw [← hbe]
    clear hbe
    generalize w.alloc (.cells v.arr 30) = W at *
    have dc := cell_of_block (j := 0) S.out.cn rfl
    have hfz := frozen_of_block (j := 0) S.out.cn
    have hw : IntKind.i64.wrap ((c : Int) + 1) = (c : Int) + 1 := IntWalk.i64_in _ (by omega)
    go_upto_region 2 with (fail)
    have S2 := hid (S.out.put (c' := c + 1) ((c : Int) + 1) (by omega))
    clear S dc hfz hw
    have S := S2
    clear S2
    have hsub : W.setCell ⟨p, 0, none⟩ (.int .i64 ((c : Int) + 1)) = W.setCell ⟨p, 0, none⟩ (.int .i64 ((c : Int) + 1)) := rfl
    clear hsub
    generalize W.setCell ⟨p, 0, none⟩ (.int .i64 ((c : Int) + 1)) = W1 at *
    have dc := cell_of_block (j := 0) S.out.cn rfl
    by_cases hc1 : c + 1 ≤ 600
    · have hc2 : ¬ (600 : Int) < (c : Int) + 1 := by omega
      go_wp2_with (refine load_onI 30 _ rfl (by kernel_rfl) b rfl _ _ _ _ S.out.box Tryd.underlying30 rfl iSize ?_)
      refine (plain_any v _ S.out.ok (HT.out.keepC S.out.chg HPA.out)).mono ?_
      rintro e w2 ⟨rfl, hb⟩
      dsimp only
      have S2 := hid (S.out.below hb)
      clear S hb dc
      have S := S2
      clear S2
      cases hp : v.it.plain with
      | false =>
        have HP : Hid (walkP (f + 1) v.it c = none) := by show _ = _; rw [walkP, if_neg (by rw [hp]; simp)]
        clear hp
        go_wp2_with fail
        go_ret
        unfold WalkRes
        rw [HP.out]
        exact ⟨S.out.chg, rfl⟩
      | true =>
        have HPE : Hid (walkP (f + 1) v.it c = walkL (walkP f) (v.kids.map ItV.it) (c + 1)) := by
          show _ = _
          rw [walkP, if_pos ⟨hc1, hp⟩, ItV.it_eq]
        clear hp
        have dk := S.out.cell (ar4 v)
        have hnn : v.ks.n ≤ 1099511627776 := (ItV.ok_iff.1 S.out.ok).2.1.sm
        obtain ⟨ka, hka⟩ : ∃ ka, v.ks.a = ka := ⟨_, rfl⟩
        rw [hka] at dk
        have HKA := hid hka; clear hka
        go_wp2_with fail
        clear dk
        go_loopw [30] (fun y wr => WlSt f v w b p c y wr) (fun y _ => v.ks.n - (intOf y).toNat)
        case atStart => exact ⟨⟨0, c + 1, Nat.zero_le _, rfl, hc1, by simp [walkL], S.out⟩⟩
        case round =>
          obtain ⟨k, m, hk, rfl, hm, hacc, hs⟩ := hrel.ex
          clear hrel
          clear S
          have S := hid hs; have HACC := hid hacc
          clear hs hacc
          by_cases hlt : k < v.ks.n
          · obtain ⟨bx, ox, x, hax, hx, hrow⟩ := (ItV.ok_iff.1 S.out.ok).2.1.row hlt
            rw [HKA.out] at hax
            subst hax
            have HFX := hid (fun q (hq : q ∈ x.foot) => S.out.pf q (ItV.mem_foot.2 (.inr (.inr ⟨x, List.mem_of_getElem? hx, hq⟩))))
            have HX := hid ((ItV.ok_iff.1 S.out.ok).2.2 x (List.mem_of_getElem? hx))
            have HTK := hid (take_map_snoc hx)
            have HGX := hid hx
            have HR := hid hrow
            clear hx hrow
            go_upto_region 7 with (first | (refine wpList_load_mid rfl 30 _ rfl bx (ox + k * 5) rfl x.arr.toList _ HR.out Tryd.underlying30 rfl iSize ?_; simp only [Array.toArray_toList]) | (refine wpList_alloc_obj rfl 30 rfl _ iZero ?_) | (refine wpList_store_obj rfl 30 _ _ rfl wr.heap.size rfl _ rfl _ _ (block_new wr _) rfl iSize (arr_one x) ?_; intro w5 hb5 hc5 hs5; have KB := hid hb5; have HC5 := hid hc5; clear hb5 hc5 hs5))
            have hbel : Below wr.heap.size wr w5 := ((Below.refl _ wr).alloc (Nat.le_refl _) _).trans (HC5.out.below (fun k hk => by rw [List.mem_singleton.1 hk]; exact Nat.le_refl _) (by simp))
            have S5 := hid (S.out.below hbel)
            have HX5 := hid (HX.out.below hbel)
            have HB5 := hid hbel
            clear hbel HC5 HR S HX
            have S := S5; have HX := HX5
            clear S5 HX5
            generalize wr.heap.size = kb at *
            have HT5 : Hid (UT w5) := HT.out.keepC S.out.chg HPA.out
            go_wp2_with (refine wpList_load_row rfl 30 _ rfl kb rfl _ _ _ _ KB.out Tryd.underlying30 rfl iSize ?_)
            refine (IH.out x _ (dz + 1) p m HD.out HD1.out HX.out hm S.out.cn HFX.out HT5.out).mono ?_
            intro e w6 hres
            unfold WalkRes at hres
            obtain ⟨hch, hres⟩ := hres
            cases hw : walkP f x.it m with
            | none =>
              rw [hw] at hres
              obtain rfl := hres
              dsimp only
              have HP : Hid (walkP (f + 1) v.it c = none) := by
                show _ = _
                have hsn : walkL (walkP f) ((v.kids.take (k + 1)).map ItV.it) (c + 1) = none := by rw [HTK.out, walkL_snoc _ _ _ _ HACC.out]; exact hw
                rw [HPE.out, show v.kids.map ItV.it = (v.kids.take (k + 1)).map ItV.it ++ (v.kids.drop (k + 1)).map ItV.it from by rw [← List.map_append, List.take_append_drop]]
                exact walkL_stop _ _ _ hsn
              have HCH := hid (S.out.chg.trans hch (fun k hk => .inl hk))
              clear hch hw
              go_wp2_with fail
              go_ret
              unfold WalkRes
              rw [HP.out]
              exact ⟨HCH.out, rfl⟩
            | some m2 =>
              rw [hw] at hres
              obtain ⟨rfl, hcn⟩ := hres
              dsimp only
              have HM2 := hid (walkP_le f x.it m m2 hw)
              have HACC2 : Hid (walkL (walkP f) ((v.kids.take (k + 1)).map ItV.it) (c + 1) = some m2) := by show _ = _; rw [HTK.out, walkL_snoc _ _ _ _ HACC.out]; exact hw
              have S6 := hid (S.out.turn hch hcn)
              clear S hch hcn hw KB HACC HTK HX HB5
              go_wp2_with fail
              have HR : WlSt f v w b p c (.int .i64 ((k : Int) + 1)) _ := ⟨⟨k + 1, m2, by omega, by go_num, HM2.out.1, HACC2.out, S6.out⟩⟩
              go_roundw
              case rel => first | exact HR | ((repeat apply Exists.intro); exact HR) | ((repeat apply Exists.intro); exact ⟨HR, rfl⟩)
              case measure => (simp [intOf] <;> omega)
          · obtain rfl : k = v.ks.n := by omega
            have HP : Hid (walkP (f + 1) v.it c = some m) := by
              show _ = _
              have h := HACC.out
              rw [List.take_of_length_le (by have := (ItV.ok_iff.1 S.out.ok).2.1.klen; omega)] at h
              rw [HPE.out, h]
            go_wp2_with fail
            go_ret
            unfold WalkRes
            rw [HP.out]
            exact ⟨S.out.chg, rfl, S.out.cn⟩
    · have hc2 : (600 : Int) < (c : Int) + 1 := by omega
      have HP : Hid (walkP (f + 1) v.it c = none) := by show _ = _; rw [walkP, if_neg (fun h => hc1 h.1)]
      clear hc1
      go_wp2_with fail
      go_ret
      unfold WalkRes
      rw [HP.out]
      exact ⟨S.out.chg, rfl⟩
end Go.Proofs.YteenglgnakenmaaDoor
