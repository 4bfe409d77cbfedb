/- ttlv: Right, length, lay, Encode. -/
import Derived.Test.YteenglgnakenmaaDoorTtl3
import Derived.Test.YteenglgnakenmaaDoorOctet
namespace Go.Proofs.YteenglgnakenmaaDoor
open Go.RowKit
set_option linter.unusedVariables false
set_option linter.unusedSimpArgs false
set_option maxRecDepth 100000
set_option maxHeartbeats 3200000
def lenI (i : Itm) : Int := if i.typ = 1 then (sizeF 100 i : Int) - 8 else if isD i.typ = true then (i.data.length : Int) else if isS i.typ = true then 4 else 8
def headI (i : Itm) : List UInt8 := be 1 (u64nat (i.tag / 65536)) ++ (be 2 (u64nat i.tag) ++ (be 1 (u64nat i.typ) ++ be 4 (u64nat (lenI i))))
def pad8 (l : List UInt8) : List UInt8 := l ++ List.replicate (up8 l.length - l.length) 0
mutual
def Itm.enc : Itm → List UInt8
  | ⟨t, y, n, d, k⟩ => pad8 (headI ⟨t, y, n, d, k⟩ ++ (if y = 1 then encAll k else if isD y = true then d else if isS y = true then be 4 (u64nat n) else be 8 (u64nat n)))
def encAll : List Itm → List UInt8
  | [] => []
  | i :: r => i.enc ++ encAll r
end
def bodyI (i : Itm) : List UInt8 := if i.typ = 1 then encAll i.kids else if isD i.typ = true then i.data else if isS i.typ = true then be 4 (u64nat i.int) else be 8 (u64nat i.int)
theorem Itm.enc_eq (i : Itm) : i.enc = pad8 (headI i ++ bodyI i) := by
  obtain ⟨t, y, n, d, k⟩ := i
  rw [Itm.enc]
  rfl
theorem headI_len (i : Itm) : (headI i).length = 8 := by unfold headI; simp only [List.length_append, be_len]
theorem up8_ge (n : Nat) : n ≤ up8 n ∧ up8 n < n + 8 ∧ up8 n % 8 = 0 := by unfold up8; omega
theorem pad8_len (l : List UInt8) : (pad8 l).length = up8 l.length := by
  have := up8_ge l.length
  unfold pad8
  rw [List.length_append, List.length_replicate]
  omega
theorem enc_len (i : Itm) : i.enc.length = up8 (8 + (bodyI i).length) := by rw [Itm.enc_eq, pad8_len, List.length_append, headI_len]
theorem enc_mod (i : Itm) : i.enc.length % 8 = 0 := by rw [enc_len]; exact (up8_ge _).2.2
theorem encAll_app (a b : List Itm) : encAll (a ++ b) = encAll a ++ encAll b := by
  induction a with
  | nil => rfl
  | cons x a ih => simp only [List.cons_append, encAll, ih, List.append_assoc]
theorem encAll_mod (a : List Itm) : (encAll a).length % 8 = 0 := by
  induction a with
  | nil => rfl
  | cons x a ih => simp only [encAll, List.length_append]; have := enc_mod x; omega
theorem encAll_one (x : Itm) : encAll [x] = x.enc := by simp [encAll]
/-- What stands while an item is laid. -/
structure LySt (w W : World) (b p : Nat) (v : ItV) (l : List UInt8) (F : List Nat) : Prop where
  box : W.heap[b]? = some (.cells v.arr 30 (0, 0))
  ok : v.ok W
  wr : ∃ F', Wr 89 W p l F' ∧ Fresh F F' w ∧ b ∉ F'
  chg : Chg F w W
  dj : ∀ k ∈ v.foot, k ∉ F
  lt : ∀ k ∈ v.foot, k < w.heap.size
  wb : w.heap.size ≤ b
section
variable {w W W' : World} {b p : Nat} {v : ItV} {l l' : List UInt8} {F F1 F2 : List Nat}
theorem LySt.start (hv : v.ok w) (hw : Wr 89 w p l F) (hd : ∀ k ∈ v.foot, k ∉ F) : LySt w (w.alloc (.cells v.arr 30)) w.heap.size p v l F :=
  have hb : Below w.heap.size w (w.alloc (.cells v.arr 30)) := (Below.refl _ _).alloc (Nat.le_refl _) _
  ⟨block_new _ _, hv.below hb, ⟨F, hw.keep (Chg.of_below hb []) (fun _ _ hm => by cases hm), fun k hk => .inl hk, fun hm => by have := hw.lt _ hm; omega⟩, Chg.of_below hb _, hd, hv.lt, Nat.le_refl _⟩
theorem LySt.below (h : LySt w W b p v l F) (hb : Below W.heap.size W W') : LySt w W' b p v l F := by
  obtain ⟨F', h1, h2, h3⟩ := h.wr
  exact ⟨(hb.block _ (block_lt h.box)).trans h.box, h.ok.below hb, ⟨F', h1.keep (Chg.of_below hb []) (fun _ _ hm => by cases hm), h2, h3⟩, h.chg.trans (Chg.of_below hb []) (fun _ hm => by cases hm), h.dj, h.lt, h.wb⟩
theorem LySt.write (h : LySt w W b p v l F) (h1 : Fresh F F1 w) (hb1 : b ∉ F1) (hw : Wr 89 W' p l' F2) (hc : Chg F1 W W') (hf : Fresh F1 F2 W) : LySt w W' b p v l' F := by
  have hdis : ∀ k ∈ v.foot, k ∉ F1 := fun k hk hm => by
    rcases h1 k hm with h' | h'
    · exact h.dj k hk h'
    · have := h.lt k hk; omega
  exact ⟨(hc.block b (block_lt h.box) hb1).trans h.box, ItV.ok.keep hc h.ok hdis, ⟨F2, hw, h1.trans hf h.chg.size, fun hm => by
    rcases hf b hm with h' | h'
    · exact hb1 h'
    · have := block_lt h.box; omega⟩, h.chg.trans hc h1, h.dj, h.lt, h.wb⟩
theorem LySt.cell (h : LySt w W b p v l F) {j : Nat} {u : Value} (hu : v.arr[j]? = some u) : W.cell? ⟨b, j, none⟩ = some u := cell_of_block h.box hu
end
/-- What lay answers. -/
def LayD (bs : List UInt8) (p : Nat) (l : List UInt8) (F : List Nat) (w : World) (e : Ending) (w' : World) : Prop :=
  ∃ F', e = .returned (.tuple #[]) ∧ Wr 89 w' p (l ++ bs) F' ∧ Chg F w w' ∧ Fresh F F' w
theorem Right_any (v : ItV) (w : World) (hv : v.ok w) (hT : UT w) : Calls Tryd.prog 26 #[.agg v.arr] w fun e w' => e = .returned (.bool (rightI v.it)) ∧ Below w.heap.size w w' := by
  have HT0 := hid hT
  have HLT := hid hv.lt
  clear hT
  obtain ⟨b, hbe⟩ : ∃ b, b = w.heap.size := ⟨_, rfl⟩
  have S := hid (Bx.start hv)
  rw [← hbe] at S
  have HBE := hid hbe
  go_enter Tryd.func26, Tryd.ntmps26
  go_upto_region 1 with (fail)
  rw [← hbe]
  clear hbe hv
  generalize w.alloc (.cells v.arr 30) = W at *
  go_upto_region 2 with (fail)
  have hbk := block_new W (.cells #[.int .i64 0] 3)
  have hb2 : Below W.heap.size W (W.alloc (.cells #[.int .i64 0] 3)) := (Below.refl _ _).alloc (Nat.le_refl _) _
  have S2 := hid (S.out.below hb2)
  have HWB := hid (Nat.le_of_lt (block_lt S.out.box))
  have HWS := hid S.out.bel.size
  have HTW := hid (HT0.out.below (by rw [← HBE.out]; exact S2.out.bel))
  clear hb2 S
  have S := S2
  clear S2
  obtain ⟨p, hp⟩ : ∃ p, p = W.heap.size := ⟨_, rfl⟩
  rw [← hp] at hbk HWB HWS ⊢
  have HPF : Hid (∀ k ∈ v.foot, k ≠ p) := fun k hk => by have h1 := HLT.out k hk; have h2 := HWS.out; omega
  have HCN := hid hbk
  have HPB : Hid (b < p) := by show _ < _; have h1 := block_lt S.out.box; simp at h1; rw [← hp] at h1; have : b ≠ p := fun e => (by have h2 := S.out.box; rw [e, hbk] at h2; have := Option.some.inj h2; simp [ItV.arr] at this); omega
  clear hbk hp
  generalize W.alloc (.cells #[.int .i64 0] 3) = W1 at *
  go_wp2_with (refine wpList_load_row rfl 30 _ rfl b rfl _ _ _ _ S.out.box Tryd.underlying30 rfl iSize ?_)
  refine (walk_any 12 v _ 1 p 0 (by decide) (by decide) S.out.ok (by decide) HCN.out HPF.out HTW.out).mono ?_
  intro e w6 hres
  unfold WalkRes at hres
  obtain ⟨hch, hres⟩ := hres
  have HBB := hid (S.out.bel.trans (hch.below (fun k hk => by have h1 := List.mem_singleton.1 hk; have h2 := HPB.out; omega) (Nat.le_of_lt (block_lt S.out.box))))
  cases hw : walkP 12 v.it 0 with
  | none =>
    rw [hw] at hres
    obtain rfl := hres
    dsimp only
    have HR : Hid (rightI v.it = false) := by show _ = _; unfold rightI; rw [hw]; rfl
    clear hw hch
    go_wp2_with fail
    go_ret
    exact ⟨by rw [HR.out]; rfl, by rw [← HBE.out]; exact HBB.out⟩
  | some m =>
    rw [hw] at hres
    obtain ⟨rfl, hcn⟩ := hres
    dsimp only
    have HR : Hid (rightI v.it = decide (sizeF 100 v.it ≤ 8192)) := by show _ = _; unfold rightI; rw [hw]; rfl
    have HOK := hid (ItV.ok.keep hch S.out.ok (fun k hk hm => HPF.out k hk (List.mem_singleton.1 hm)))
    have HBX := hid ((hch.block _ (block_lt S.out.box) (by have := HPB.out; simp; omega)).trans S.out.box)
    clear hw hch hcn S
    go_wp2_with (refine load_onI 30 _ rfl (by kernel_rfl) b rfl _ _ _ _ HBX.out Tryd.underlying30 rfl iSize ?_)
    refine (Size_any v _ HOK.out).mono ?_
    rintro e w7 ⟨rfl, hb7⟩
    dsimp only
    have HBB' := hid (HBB.out.trans (Below.mono hb7 (by rw [HBE.out]; exact HBB.out.size)))
    generalize sizeF 100 v.it = sz at *
    have hsz : ((sz : Int) ≤ 8192) = (sz ≤ 8192) := by simp only [eq_iff_iff]; omega
    go_wp2_with fail
    go_ret
    exact ⟨by rw [HR.out]; simp only [hsz]; rfl, by rw [← HBE.out]; exact HBB'.out⟩
theorem sizeF_ge (f : Nat) (i : Itm) (h : i.typ = 1) : 8 ≤ sizeF (f + 1) i := by
  rw [sizeF_k h]
  have : ∀ (l : List Itm) (n : Nat), 8 ≤ n → 8 ≤ l.foldl (fun n k => min (n + sizeF f k) 2147483648) n := by
    intro l
    induction l with
    | nil => exact fun n h => h
    | cons x l ih => exact fun n h => ih _ (by show 8 ≤ min (n + sizeF f x) 2147483648; omega)
  exact this _ _ (by decide)
theorem length_any (v : ItV) (w : World) (hv : v.ok w) : Calls Tryd.prog 42 #[.agg v.arr] w fun e w' => e = .returned (.int .i64 (lenI v.it)) ∧ Below w.heap.size w w' := by
  obtain ⟨b, hbe⟩ : ∃ b, b = w.heap.size := ⟨_, rfl⟩
  have S := hid (Bx.start hv)
  rw [← hbe] at S
  have HBE := hid hbe
  go_enter Tryd.func42, Tryd.ntmps42
  go_upto_region 1 with (fail)
  rw [← hbe]
  clear hbe hv
  generalize w.alloc (.cells v.arr 30) = W at *
  have d1 := S.out.cell (ar1 v)
  by_cases ht : v.typ = 1
  · rw [ht] at d1
    have HR : Hid (lenI v.it = (sizeF 100 v.it : Int) - 8) := by
      show _ = _
      unfold lenI
      rw [if_pos (by rw [ItV.it_eq]; exact ht)]
    have hge := sizeF_ge 99 v.it (by rw [ItV.it_eq]; exact ht)
    have hle := sizeF_le 100 v.it
    clear ht
    go_wp2_with (refine wpList_load_row rfl 30 _ rfl b rfl _ _ _ _ S.out.box Tryd.underlying30 rfl iSize ?_)
    refine (Size_any v _ S.out.ok).mono ?_
    rintro e w7 ⟨rfl, hb7⟩
    dsimp only
    have S2 := hid (S.out.below hb7)
    clear S hb7 d1
    have S := S2
    generalize sizeF 100 v.it = q at *
    have hq : IntKind.i64.wrap ((q : Int) - 8) = (q : Int) - 8 := IntWalk.i64_in _ (by omega)
    go_wp2_with fail
    go_ret
    exact ⟨by rw [HR.out]; rfl, by rw [← HBE.out]; exact S.out.bel⟩
  · have ht1 : (v.typ == 1) = false := beq_eq_false_iff_ne.2 ht
    have HT := hid ht
    clear ht
    go_wp2_with fail
    refine (isData_any v.typ _).mono ?_
    rintro e w2 ⟨rfl, rfl⟩
    dsimp only
    cases hq : isD v.typ with
    | true =>
      have HR : Hid (lenI v.it = (v.ds.n : Int)) := by
        show _ = _
        unfold lenI
        rw [ItV.it_eq]
        simp only
        rw [if_neg HT.out, if_pos hq, (ItV.ok_iff.1 S.out.ok).1.lenB]
      clear hq
      have d3 := S.out.cell (ar3 v)
      go_wp2_with fail
      go_ret
      exact ⟨by rw [HR.out]; rfl, by rw [← HBE.out]; exact S.out.bel⟩
    | false =>
      have HQ := hid hq
      clear hq
      go_wp2_with fail
      refine (isShort_any v.typ _).mono ?_
      rintro e w2 ⟨rfl, rfl⟩
      dsimp only
      cases hs : isS v.typ with
      | true =>
        have HR : Hid (lenI v.it = 4) := by
          show _ = _
          unfold lenI
          rw [ItV.it_eq]
          simp only
          rw [if_neg HT.out, if_neg (by rw [HQ.out]; decide), if_pos hs]
        clear hs
        go_wp2_with fail
        go_ret
        exact ⟨by rw [HR.out]; rfl, by rw [← HBE.out]; exact S.out.bel⟩
      | false =>
        have HR : Hid (lenI v.it = 8) := by
          show _ = _
          unfold lenI
          rw [ItV.it_eq]
          simp only
          rw [if_neg HT.out, if_neg (by rw [HQ.out]; decide), if_neg (by rw [hs]; decide)]
        clear hs
        go_wp2_with fail
        go_ret
        exact ⟨by rw [HR.out]; rfl, by rw [← HBE.out]; exact S.out.bel⟩
structure LkSt (w : World) (b p : Nat) (v : ItV) (l : List UInt8) (F : List Nat) (y : Value) (wr : World) : Prop where
  ex : ∃ (k : Nat), k ≤ v.ks.n ∧ y = .int .i64 k ∧ LySt w wr b p v (l ++ (headI v.it ++ encAll ((v.kids.take k).map ItV.it))) F
theorem lay_any : ∀ (v : ItV) (w : World) (p : Nat) (l : List UInt8) (F : List Nat), v.ok w → Wr 89 w p l F → (∀ k ∈ v.foot, k ∉ F) → l.length % 8 = 0 → l.length + v.it.enc.length + 16 ≤ 140737488355328 →
    Calls Tryd.prog 28 #[.agg v.arr, .pointer (some ⟨p, 0, none⟩)] w (LayD v.it.enc p l F w) := by
  refine ItV.ind (C := fun v => ∀ (w : World) (p : Nat) (l : List UInt8) (F : List Nat), v.ok w → Wr 89 w p l F → (∀ k ∈ v.foot, k ∉ F) → l.length % 8 = 0 → l.length + v.it.enc.length + 16 ≤ 140737488355328 → Calls Tryd.prog 28 #[.agg v.arr, .pointer (some ⟨p, 0, none⟩)] w (LayD v.it.enc p l F w)) ?_
  intro v ih w p l F hv hw hd hm hn
  have IH := hid ih; have HLM := hid hm; have HLN := hid hn
  have HEL : Hid (v.it.enc.length = up8 (8 + (bodyI v.it).length) ∧ 8 + (bodyI v.it).length ≤ v.it.enc.length) := ⟨enc_len _, by rw [enc_len]; exact (up8_ge _).1⟩
  clear ih hm hn
  obtain ⟨b, hbe⟩ : ∃ b, b = w.heap.size := ⟨_, rfl⟩
  have S := hid (LySt.start hv hw hd)
  rw [← hbe] at S
  have HBE := hid hbe
  go_enter Tryd.func28, Tryd.ntmps28
  go_upto_region 1 with (fail)
  rw [← hbe]
  clear hbe hv hw hd
  generalize w.alloc (.cells v.arr 30) = W at *
  have d0 := S.out.cell (ar0 v)
  have d1 := S.out.cell (ar1 v)
  go_wp2_with fail
  obtain ⟨F1, hw1, hf1, hb1⟩ := S.out.wr
  refine (oU8_any p l F1 (v.tag / 65536) _ hw1 (by (try simp only [List.length_append, be_len]); have h1 := HLN.out; have h2 := HEL.out; omega)).mono ?_
  rintro e W2 ⟨F2, rfl, hw2, hc2, hf2⟩
  dsimp only
  have S2 := hid (S.out.write hf1 hb1 hw2 hc2 hf2)
  clear S hw1 hf1 hb1 hw2 hc2 hf2 d0 d1
  have S := S2
  clear S2
  have d0 := S.out.cell (ar0 v)
  have d1 := S.out.cell (ar1 v)
  go_wp2_with fail
  obtain ⟨F1, hw1, hf1, hb1⟩ := S.out.wr
  refine (oU16_any p _ F1 v.tag _ hw1 (by (try simp only [List.length_append, be_len]); have h1 := HLN.out; have h2 := HEL.out; omega)).mono ?_
  rintro e W2 ⟨F2, rfl, hw2, hc2, hf2⟩
  dsimp only
  have S2 := hid (S.out.write hf1 hb1 hw2 hc2 hf2)
  clear S hw1 hf1 hb1 hw2 hc2 hf2 d0 d1
  have S := S2
  clear S2
  have d1 := S.out.cell (ar1 v)
  go_wp2_with fail
  obtain ⟨F1, hw1, hf1, hb1⟩ := S.out.wr
  refine (oU8_any p _ F1 v.typ _ hw1 (by (try simp only [List.length_append, be_len]); have h1 := HLN.out; have h2 := HEL.out; omega)).mono ?_
  rintro e W2 ⟨F2, rfl, hw2, hc2, hf2⟩
  dsimp only
  have S2 := hid (S.out.write hf1 hb1 hw2 hc2 hf2)
  clear S hw1 hf1 hb1 hw2 hc2 hf2 d1
  have S := S2
  clear S2
  go_wp2_with (refine wpList_load_row rfl 30 _ rfl b rfl _ _ _ _ S.out.box Tryd.underlying30 rfl iSize ?_)
  refine (length_any v _ S.out.ok).mono ?_
  rintro e W2 ⟨rfl, hb2⟩
  dsimp only
  have S2 := hid (S.out.below hb2)
  clear S hb2
  have S := S2
  clear S2
  go_wp2_with fail
  obtain ⟨F1, hw1, hf1, hb1⟩ := S.out.wr
  refine (oU32_any p _ F1 (lenI v.it) _ hw1 (by (try simp only [List.length_append, be_len]); have h1 := HLN.out; have h2 := HEL.out; omega)).mono ?_
  rintro e W2 ⟨F2, rfl, hw2, hc2, hf2⟩
  dsimp only
  have S2 := hid (S.out.write hf1 hb1 hw2 hc2 hf2)
  clear S hw1 hf1 hb1 hw2 hc2 hf2
  have S := S2
  clear S2
  have e8 : (((l ++ be 1 (u64nat (v.tag / 65536))) ++ be 2 (u64nat v.tag)) ++ be 1 (u64nat v.typ)) ++ be 4 (u64nat (lenI v.it)) = l ++ headI v.it := by
    unfold headI
    simp only [List.append_assoc]
    rw [ItV.it_eq]
  rw [e8] at S
  clear e8
  go_upto_block 0 with (fail)
  go_cut [28] (fun _ wx => LySt w wx b p v (l ++ (headI v.it ++ bodyI v.it)) F)
  case first =>
    have d1 := S.out.cell (ar1 v)
    by_cases ht : v.typ = 1
    · rw [ht] at d1
      have HBD : Hid (bodyI v.it = encAll (v.kids.map ItV.it)) := by
        show _ = _
        unfold bodyI
        rw [ItV.it_eq]
        simp only
        rw [if_pos ht]
      clear ht
      have dk := S.out.cell (ar4 v)
      have hnn : v.ks.n ≤ 1099511627776 := (ItV.ok_iff.1 S.out.ok).2.1.sm
      obtain ⟨ka, hka⟩ : ∃ ka, v.ks.a = ka := ⟨_, rfl⟩
      rw [hka] at dk
      have HKA := hid hka; clear hka
      go_wp2_with fail
      clear d1 dk
      go_loopw [35] (fun y wr => LkSt w b p v l F y wr) (fun y _ => v.ks.n - (intOf y).toNat)
      case atStart => exact ⟨⟨0, Nat.zero_le _, rfl, by simpa [encAll] using S.out⟩⟩
      case round =>
        obtain ⟨k, hk, rfl, hs⟩ := hrel.ex
        clear hrel
        clear S
        have S := hid hs
        clear hs
        by_cases hlt : k < v.ks.n
        · obtain ⟨bx, ox, x, hax, hx, hrow⟩ := (ItV.ok_iff.1 S.out.ok).2.1.row hlt
          rw [HKA.out] at hax
          subst hax
          have hmem := List.mem_of_getElem? hx
          have HDX := hid (fun q (hq : q ∈ x.foot) => S.out.dj q (ItV.mem_foot.2 (.inr (.inr ⟨x, hmem, hq⟩))))
          have HLX := hid (fun q (hq : q ∈ x.foot) => S.out.lt q (ItV.mem_foot.2 (.inr (.inr ⟨x, hmem, hq⟩))))
          have HSP : Hid (encAll (v.kids.map ItV.it) = encAll ((v.kids.take (k + 1)).map ItV.it) ++ encAll ((v.kids.drop (k + 1)).map ItV.it)) := by
            show _ = _
            rw [← encAll_app, ← List.map_append, List.take_append_drop]
          have HMM := hid hmem
          clear hmem
          have HX := hid ((ItV.ok_iff.1 S.out.ok).2.2 x (List.mem_of_getElem? hx))
          have HTK := hid (take_map_snoc hx)
          have HGX := hid hx
          have HR := hid hrow
          clear hx hrow
          go_upto_region 10 with (first | (refine wpList_load_mid rfl 30 _ rfl bx (ox + k * 5) rfl x.arr.toList _ HR.out Tryd.underlying30 rfl iSize ?_; simp only [Array.toArray_toList]) | (refine wpList_alloc_obj rfl 30 rfl _ iZero ?_) | (refine wpList_store_obj rfl 30 _ _ rfl wr.heap.size rfl _ rfl _ _ (block_new wr _) rfl iSize (arr_one x) ?_; intro w5 hb5 hc5 hs5; have KB := hid hb5; have HC5 := hid hc5; clear hb5 hc5 hs5))
          have hbel : Below wr.heap.size wr w5 := ((Below.refl _ wr).alloc (Nat.le_refl _) _).trans (HC5.out.below (fun k hk => by rw [List.mem_singleton.1 hk]; exact Nat.le_refl _) (by simp))
          have S5 := hid (S.out.below hbel)
          have HX5 := hid (HX.out.below hbel)
          have HB5 := hid hbel
          clear hbel HC5 HR S HX
          have S := S5; have HX := HX5
          clear S5 HX5
          generalize wr.heap.size = kb at *
          have HNX : Hid (encAll ((v.kids.take (k + 1)).map ItV.it) = encAll ((v.kids.take k).map ItV.it) ++ x.it.enc) := by
            show _ = _
            rw [HTK.out, encAll_app, encAll_one]
          go_wp2_with (refine wpList_load_row rfl 30 _ rfl kb rfl _ _ _ _ KB.out Tryd.underlying30 rfl iSize ?_)
          obtain ⟨F1, hw1, hf1, hb1⟩ := S.out.wr
          refine (IH.out x HMM.out _ p _ F1 HX.out hw1 (fun q hq hm => by
            rcases hf1 q hm with h' | h'
            · exact HDX.out q hq h'
            · have := HLX.out q hq; omega) (by simp only [List.length_append, headI_len]; have h1 := HLM.out; have h2 := encAll_mod ((v.kids.take k).map ItV.it); omega)
            (by have h1 := HLN.out; have h2 := HEL.out; have h3 := congrArg List.length HSP.out; have h4 := congrArg List.length HNX.out; have h5 := congrArg List.length HBD.out; simp only [List.length_append, headI_len] at h3 h4 ⊢; omega)).mono ?_
          intro e W2 hres
          obtain ⟨F2, rfl, hw2, hc2, hf2⟩ := hres
          dsimp only
          have S2 := hid (S.out.write hf1 hb1 hw2 hc2 hf2)
          have e9 : (l ++ (headI v.it ++ encAll ((v.kids.take k).map ItV.it))) ++ x.it.enc = l ++ (headI v.it ++ encAll ((v.kids.take (k + 1)).map ItV.it)) := by rw [HNX.out]; simp only [List.append_assoc]
          rw [e9] at S2
          clear S hw1 hf1 hb1 hw2 hc2 hf2 e9 HDX HLX KB HX HTK HB5 HSP HNX HMM
          go_wp2_with fail
          have HR : LkSt w b p v l F (.int .i64 ((k : Int) + 1)) _ := ⟨⟨k + 1, by omega, by go_num, S2.out⟩⟩
          go_roundw
          case rel => first | exact HR | ((repeat apply Exists.intro); exact HR) | ((repeat apply Exists.intro); exact ⟨HR, rfl⟩)
          case measure => (simp [intOf] <;> omega)
        · obtain rfl : k = v.ks.n := by omega
          go_wp2_with fail
          go_meet
          have h := S.out
          rw [List.take_of_length_le (by have := (ItV.ok_iff.1 S.out.ok).2.1.klen; omega), ← HBD.out] at h
          exact h
    · have ht1 : (v.typ == 1) = false := beq_eq_false_iff_ne.2 ht
      have HT := hid ht
      clear ht
      go_wp2_with fail
      refine (isData_any v.typ _).mono ?_
      rintro e w2 ⟨rfl, rfl⟩
      dsimp only
      cases hq : isD v.typ with
      | true =>
        have HBD : Hid (bodyI v.it = v.data) := by
          show _ = _
          unfold bodyI
          rw [ItV.it_eq]
          simp only
          rw [if_neg HT.out, if_pos hq]
        clear hq
        have d3 := S.out.cell (ar3 v)
        have hsd := (ItV.ok_iff.1 S.out.ok).1
        go_wp2_with fail
        obtain ⟨F1, hw1, hf1, hb1⟩ := S.out.wr
        refine (oRaw_any p _ F1 v.ds.a v.ds.n v.ds.c v.data _ hw1 hsd.rdB hsd.no (by simp only [List.length_append, headI_len]; have h1 := HLN.out; have h2 := HEL.out; have h3 := congrArg List.length HBD.out; have h4 := hsd.lenB; omega)).mono ?_
        rintro e W2 ⟨F2, rfl, hw2, hc2, hf2⟩
        dsimp only
        have S2 := hid (S.out.write hf1 hb1 hw2 hc2 hf2)
        clear S hw1 hf1 hb1 hw2 hc2 hf2 d1 d3 hsd
        have S := S2
        clear S2
        go_wp2_with fail
        go_meet
        have h := S.out
        rw [List.append_assoc, ← HBD.out] at h
        exact h
      | false =>
        have HQ := hid hq
        clear hq
        go_wp2_with fail
        refine (isShort_any v.typ _).mono ?_
        rintro e w2 ⟨rfl, rfl⟩
        dsimp only
        have d2 := S.out.cell (ar2 v)
        cases hs : isS v.typ with
        | true =>
          have HBD : Hid (bodyI v.it = be 4 (u64nat v.int)) := by
            show _ = _
            unfold bodyI
            rw [ItV.it_eq]
            simp only
            rw [if_neg HT.out, if_neg (by rw [HQ.out]; decide), if_pos hs]
          clear hs
          go_wp2_with fail
          obtain ⟨F1, hw1, hf1, hb1⟩ := S.out.wr
          refine (oU32_any p _ F1 v.int _ hw1 (by simp only [List.length_append, headI_len]; have h1 := HLN.out; have h2 := HEL.out; omega)).mono ?_
          rintro e W2 ⟨F2, rfl, hw2, hc2, hf2⟩
          dsimp only
          have S2 := hid (S.out.write hf1 hb1 hw2 hc2 hf2)
          clear S hw1 hf1 hb1 hw2 hc2 hf2 d1 d2
          have S := S2
          clear S2
          go_wp2_with fail
          go_meet
          have h := S.out
          rw [List.append_assoc, ← HBD.out] at h
          exact h
        | false =>
          have HBD : Hid (bodyI v.it = be 8 (u64nat v.int)) := by
            show _ = _
            unfold bodyI
            rw [ItV.it_eq]
            simp only
            rw [if_neg HT.out, if_neg (by rw [HQ.out]; decide), if_neg (by rw [hs]; decide)]
          clear hs
          have hun := u64nat_eq v.int
          go_wp2_with fail
          obtain ⟨F1, hw1, hf1, hb1⟩ := S.out.wr
          refine (oU64_any p _ F1 (u64nat v.int) _ hw1 (u64nat_lt _) (by simp only [List.length_append, headI_len]; have h1 := HLN.out; have h2 := HEL.out; omega)).mono ?_
          rintro e W2 ⟨F2, rfl, hw2, hc2, hf2⟩
          dsimp only
          have S2 := hid (S.out.write hf1 hb1 hw2 hc2 hf2)
          clear S hw1 hf1 hb1 hw2 hc2 hf2 d1 d2 hun
          have S := S2
          clear S2
          go_wp2_with fail
          go_meet
          have h := S.out
          rw [List.append_assoc, ← HBD.out] at h
          exact h
  case rest =>
    have S2 := hid hcut
    clear S hcut
    have S := S2
    clear S2
    obtain ⟨i, hi, hz0, hz1, hz2⟩ := info_parts infoB'
    have HEN : Hid (v.it.enc = pad8 (headI v.it ++ bodyI v.it)) := Itm.enc_eq _
    generalize headI v.it ++ bodyI v.it = X at *
    have HZP : Hid (up8 ((l ++ X).length) - (l ++ X).length = up8 X.length - X.length ∧ (l ++ X).length ≤ up8 ((l ++ X).length) ∧ up8 ((l ++ X).length) < (l ++ X).length + 8) := by
      have h1 := HLM.out
      have h2 := up8_ge (l ++ X).length
      refine ⟨?_, h2.1, h2.2.1⟩
      rw [List.length_append]
      unfold up8
      omega
    have HXE : Hid ((l ++ X).length + (up8 X.length - X.length) + 8 ≤ 140737488355328) := by
      have h1 := HLN.out
      have h2 := HEL.out
      have h3 := congrArg List.length HEN.out
      rw [pad8_len] at h3
      have h4 := up8_ge X.length
      show _ ≤ _
      rw [List.length_append]
      omega
    obtain ⟨F1, hw1, hf1, hb1⟩ := S.out.wr
    have HW1 := hid hw1; have HF1 := hid hf1; have HB1 := hid hb1
    clear hw1 hf1 hb1
    go_wp2_with fail
    refine (oLen_any p _ F1 _ HW1.out).mono ?_
    rintro e W2 ⟨rfl, rfl⟩
    dsimp only
    generalize hL : (l ++ X).length = L at *
    go_wp2_with fail
    refine (up_any L _ (by have := HXE.out; omega)).mono ?_
    rintro e W2 ⟨rfl, rfl⟩
    dsimp only
    go_wp2_with fail
    refine (oLen_any p _ F1 _ HW1.out).mono ?_
    rintro e W2 ⟨rfl, rfl⟩
    dsimp only
    rw [hL]
    obtain ⟨q, hq⟩ : ∃ q, q = up8 X.length - X.length := ⟨_, rfl⟩
    have hzp := HZP.out
    have hxe := HXE.out
    rw [← hq] at hzp hxe
    have hpad : X ++ List.replicate q 0 = v.it.enc := by rw [HEN.out]; unfold pad8; rw [← hq]
    have HPAD := hid hpad
    have hup : (up8 L : Int) - (L : Int) = (q : Int) := by omega
    have hwq : IntKind.i64.wrap ((up8 L : Int) - (L : Int)) = (q : Int) := by rw [hup]; exact IntWalk.i64_in _ (by omega)
    have hq8 : q ≤ 16 := by omega
    clear hzp hpad hup HZP HEN hq
    obtain ⟨uL, huL⟩ : ∃ z : Nat, z = up8 L := ⟨_, rfl⟩
    rw [← huL] at hwq ⊢
    clear huL
    go_wp2_with (at_make; go_must (refine wpList_make_full _ rfl _ _ 27 rfl 0 5 i _ 1 Tryd.underlying27 hi hz0 hz1 .i64 .i64 _ _ q rfl rfl rfl rfl (by rw [hz2]; omega) (by unfold maxLen; omega) (Nat.zero_le _) ?_); intro w1 hown hg; rw [made_bytes] at hown; have HOW := hid hown; have HGW := hid hg; clear hown hg)
    have hbm := (Below.refl _ _).grown HGW.out (Nat.le_refl _) (by intro q hq; cases hq)
    have S2 := hid (S.out.below hbm)
    clear S hbm HW1 HF1 HB1 HGW
    obtain ⟨F3, hw3, hf3, hb3⟩ := S2.out.wr
    refine (oRaw_any p _ F3 _ q q _ _ hw3 (RdB.of_own HOW.out) (fun h => by cases h) (by rw [hL]; omega)).mono ?_
    rintro e W3 ⟨F4, rfl, hw4, hc4, hf4⟩
    dsimp only
    have S3 := hid (S2.out.write hf3 hb3 hw4 hc4 hf4)
    rw [List.append_assoc, HPAD.out] at S3
    clear S2 hw3 hf3 hb3 hw4 hc4 hf4
    go_wp2_with fail
    go_end0
    obtain ⟨F5, h1, h2, _⟩ := S3.out.wr
    exact ⟨F5, rfl, h1, S3.out.chg, h2⟩
end Go.Proofs.YteenglgnakenmaaDoor
