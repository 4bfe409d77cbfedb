/- The reference's tagOk, Size. -/
import Derived.Test.YtmpajhacigjloaaDoorTtlZ
namespace Go.Proofs.YtmpajhacigjloaaDoor
open Go.RowKit
set_option linter.unusedVariables false
set_option linter.unusedSimpArgs false
set_option maxRecDepth 100000
set_option maxHeartbeats 3200000
theorem wt_kid {i x : Itm} (h : x ∈ i.kids) : x.wt ≤ i.wt := by
  have hw := wt_eq i
  have : ∀ (l : List Itm), x ∈ l → x.wt ≤ wtAll l := by
    intro l
    induction l with
    | nil => intro h; cases h
    | cons y l ih =>
      intro h
      simp only [wtAll]
      rcases List.mem_cons.1 h with rfl | h'
      · omega
      · have := ih h'; omega
  have := this i.kids h
  omega
theorem fold_zero : ∀ (l : List Itm), l.foldl (fun n k => min (n + sizeF 0 k) 2147483648) 8 = 8
  | [] => rfl
  | y :: l => by
    have : min (8 + sizeF 0 y) 2147483648 = 8 := by simp [sizeF]
    rw [List.foldl_cons, this]
    exact fold_zero l
theorem tagOk_any (n : Int) (w : World) : Calls Tryd.prog 62 #[.int .i64 n] w fun e w' => e = .returned (.bool (tagB n)) ∧ w = w' := by
  have go : ∀ (b : Bool), tagB n = b → (∀ Q : Prop, (4325376 ≤ n → n ≤ 4390911 → b = true → Q) → (¬ 4325376 ≤ n → 5505024 ≤ n → n ≤ 5570559 → b = true → Q) → (4325376 ≤ n → ¬ n ≤ 4390911 → 5505024 ≤ n → n ≤ 5570559 → b = true → Q) → (¬ 4325376 ≤ n → ¬ 5505024 ≤ n → b = false → Q) → (4325376 ≤ n → ¬ n ≤ 4390911 → ¬ 5505024 ≤ n → b = false → Q) → (4325376 ≤ n → ¬ n ≤ 4390911 → 5505024 ≤ n → ¬ n ≤ 5570559 → b = false → Q) → Q) := by
    intro b hb Q k1 k2 k3 k4 k5 k6
    unfold tagB at hb
    by_cases h1 : 4325376 ≤ n
    · by_cases h2 : n ≤ 4390911
      · refine k1 h1 h2 ?_
        rw [← hb, show (n / 65536 == 66) = true by rw [beq_iff_eq]; omega]; rfl
      · by_cases h3 : 5505024 ≤ n
        · by_cases h4 : n ≤ 5570559
          · refine k3 h1 h2 h3 h4 ?_
            rw [← hb, show (n / 65536 == 84) = true by rw [beq_iff_eq]; omega]; simp
          · refine k6 h1 h2 h3 h4 ?_
            rw [← hb, beq_eq_false_iff_ne.2 (show n / 65536 ≠ 66 by omega), beq_eq_false_iff_ne.2 (show n / 65536 ≠ 84 by omega)]; rfl
        · refine k5 h1 h2 h3 ?_
          rw [← hb, beq_eq_false_iff_ne.2 (show n / 65536 ≠ 66 by omega), beq_eq_false_iff_ne.2 (show n / 65536 ≠ 84 by omega)]; rfl
    · refine k4 h1 (by omega) ?_
      rw [← hb, beq_eq_false_iff_ne.2 (show n / 65536 ≠ 66 by omega), beq_eq_false_iff_ne.2 (show n / 65536 ≠ 84 by omega)]; rfl
  obtain ⟨b, hb⟩ : ∃ b, tagB n = b := ⟨_, rfl⟩
  rw [hb]
  refine go b hb _ ?_ ?_ ?_ ?_ ?_ ?_
  · intro k0 k1 hbb
    subst hbb
    clear hb go
    go_enter Tryd.func62, Tryd.ntmps62
    go_wp2
    go_ret
    exact ⟨rfl, rfl⟩
  · intro k0 k1 k2 hbb
    subst hbb
    clear hb go
    go_enter Tryd.func62, Tryd.ntmps62
    go_wp2
    go_ret
    exact ⟨rfl, rfl⟩
  · intro k0 k1 k2 k3 hbb
    subst hbb
    clear hb go
    go_enter Tryd.func62, Tryd.ntmps62
    go_wp2
    go_ret
    exact ⟨rfl, rfl⟩
  · intro k0 k1 hbb
    subst hbb
    clear hb go
    go_enter Tryd.func62, Tryd.ntmps62
    go_wp2
    go_ret
    exact ⟨rfl, rfl⟩
  · intro k0 k1 k2 hbb
    subst hbb
    clear hb go
    go_enter Tryd.func62, Tryd.ntmps62
    go_wp2
    go_ret
    exact ⟨rfl, rfl⟩
  · intro k0 k1 k2 k3 hbb
    subst hbb
    clear hb go
    go_enter Tryd.func62, Tryd.ntmps62
    go_wp2
    go_ret
    exact ⟨rfl, rfl⟩
theorem rsize_any : ∀ (f : Nat) (v : ItV) (w : World) (dz : Int), dz + (f + 1 : Nat) = 100 → 0 ≤ dz → v.ok w → v.it.wt ≤ 1000000 →
    Calls Tryd.prog 37 #[.agg v.arr, .int .i64 dz] w fun e w' => e = .returned (.int .i64 (sizeF (f + 1) v.it : Nat)) ∧ Below w.heap.size w w' := by
  intro f
  induction f with
  | zero =>
    intro v w dz hd h1 hv hw
    obtain rfl : dz = 99 := by omega
    have hwd8 : up8 v.data.length ≤ 1000000 := by
      have h := wt_eq v.it
      rw [show v.it.data = v.data by rw [ItV.it_eq]] at h
      omega
    have HW8 := hid hwd8
    clear hwd8 hw
    obtain ⟨b, hbe⟩ : ∃ b, b = w.heap.size := ⟨_, rfl⟩
    have S := hid (Bx.start hv)
    rw [← hbe] at S
    have HBE := hid hbe
    go_enter Tryd.func37, Tryd.ntmps37
    go_upto_region 1 with (fail)
    rw [← hbe]
    clear hbe hv
    generalize w.alloc (.cells v.arr 29) = W at *
    have d1 := S.out.cell (ar1 v)
    by_cases ht : v.typ = 1
    · rw [ht] at d1
      have HSZ : Hid (sizeF (0 + 1) v.it = 8) := by
        show _ = _
        rw [ItV.it_eq, sizeF_k ht]
        exact fold_zero _
      clear ht
      have dk := S.out.cell (ar4 v)
      have hnn : v.ks.n ≤ 1099511627776 := (ItV.ok_iff.1 S.out.ok).2.1.sm
      by_cases h0 : v.ks.n = 0
      · rw [h0] at dk
        go_wp2_with fail
        go_loopw [5, 6] (fun u y wr => u = .int .i64 8 ∧ y = .int .i64 0 ∧ Bx w wr b v) (fun _ _ _ => 0)
        case atStart => exact ⟨rfl, rfl, S.out⟩
        case round =>
          obtain ⟨rfl, rfl, hs⟩ := hrel
          clear S
          have S := hid hs
          clear hs dk
          have dk := S.out.cell (ar4 v)
          rw [h0] at dk
          go_wp2_with fail
          go_ret
          exact ⟨by rw [HSZ.out]; rfl, by rw [← HBE.out]; exact S.out.bel⟩
      · have h0z : (0 : Int) < (v.ks.n : Int) := by omega
        go_wp2_with fail
        go_loopw [5, 6] (fun u y wr => u = .int .i64 8 ∧ y = .int .i64 0 ∧ Bx w wr b v) (fun _ _ _ => 0)
        case atStart => exact ⟨rfl, rfl, S.out⟩
        case round =>
          obtain ⟨rfl, rfl, hs⟩ := hrel
          clear S
          have S := hid hs
          clear hs dk
          have dk := S.out.cell (ar4 v)
          go_wp2_with fail
          go_ret
          exact ⟨by rw [HSZ.out]; rfl, by rw [← HBE.out]; exact S.out.bel⟩
    · cases hq : isD v.typ with
      | true =>
        have d3 := S.out.cell (ar3 v)
        have hnn : v.ds.n ≤ 140737488355328 := (ItV.ok_iff.1 S.out.ok).1.sm
        have HDL := hid ((ItV.ok_iff.1 S.out.ok).1.lenB)
        have h8 : v.data.length = v.ds.n := HDL.out
        have hu := HW8.out
        rw [h8] at hu
        have HSZ : Hid (sizeF (0 + 1) v.it = 8 + up8 v.ds.n) := by
          show _ = _
          rw [ItV.it_eq, sizeF_d ht hq]
          simp only [HDL.out]
          omega
        have h1 : IntKind.i64.wrap (((v.ds.n : Int) + 7).tdiv 8) = (((v.ds.n + 7) / 8 : Nat) : Int) := by
          rw [Int.tdiv_eq_ediv_of_nonneg (by omega)]
          rw [IntWalk.i64_in _ (by omega)]
          omega
        have HU : Hid (up8 v.ds.n = (v.ds.n + 7) / 8 * 8) := rfl
        obtain ⟨qd, hqd⟩ : ∃ q, q = (v.ds.n + 7) / 8 := ⟨_, rfl⟩
        rw [← hqd] at h1 HU
        have hq2 : qd ≤ 200000 := by rw [HU.out] at hu; omega
        clear hqd h8 hu
        rcases isD_iff.1 hq with e | e | e
        · rw [e] at d1
          clear e hq ht
          go_wp2_with fail
          go_ret
          exact ⟨by rw [HSZ.out, HU.out]; exact i64_ret (by omega), by rw [← HBE.out]; exact S.out.bel⟩
        · rw [e] at d1
          clear e hq ht
          go_wp2_with fail
          go_ret
          exact ⟨by rw [HSZ.out, HU.out]; exact i64_ret (by omega), by rw [← HBE.out]; exact S.out.bel⟩
        · rw [e] at d1
          clear e hq ht
          go_wp2_with fail
          go_ret
          exact ⟨by rw [HSZ.out, HU.out]; exact i64_ret (by omega), by rw [← HBE.out]; exact S.out.bel⟩
      | false =>
        have HSZ : Hid (sizeF (0 + 1) v.it = 16) := by
          show _ = _
          rw [ItV.it_eq]
          exact sizeF_o ht hq
        have e1 : (v.typ == 1) = false := beq_eq_false_iff_ne.2 ht
        have e4 : (v.typ == 4) = false := beq_eq_false_iff_ne.2 (fun h => by rw [h] at hq; cases hq)
        have e7 : (v.typ == 7) = false := beq_eq_false_iff_ne.2 (fun h => by rw [h] at hq; cases hq)
        have e8 : (v.typ == 8) = false := beq_eq_false_iff_ne.2 (fun h => by rw [h] at hq; cases hq)
        clear hq ht
        go_wp2_with fail
        go_ret
        exact ⟨by rw [HSZ.out]; rfl, by rw [← HBE.out]; exact S.out.bel⟩
  | succ f ih =>
    intro v w dz hd h1 hv hw
    have IH := hid ih
    have hdz : dz < 99 := by omega
    have HD := hid (show dz + 1 + ((f + 1 : Nat) : Int) = 100 by omega)
    have HD1 := hid (show 0 ≤ dz + 1 by omega)
    have hwd : IntKind.i64.wrap (dz + 1) = dz + 1 := IntWalk.i64_in _ (by omega)
    have HWK : Hid (∀ x ∈ v.kids, x.it.wt ≤ 1000000) := fun x hx => by
      have h2 : x.it ∈ v.it.kids := by rw [ItV.it_eq]; exact List.mem_map.2 ⟨x, hx, rfl⟩
      exact Nat.le_trans (wt_kid h2) hw
    clear ih hd
    have hwd8 : up8 v.data.length ≤ 1000000 := by
      have h := wt_eq v.it
      rw [show v.it.data = v.data by rw [ItV.it_eq]] at h
      omega
    have HW8 := hid hwd8
    clear hwd8 hw
    obtain ⟨b, hbe⟩ : ∃ b, b = w.heap.size := ⟨_, rfl⟩
    have S := hid (Bx.start hv)
    rw [← hbe] at S
    have HBE := hid hbe
    go_enter Tryd.func37, Tryd.ntmps37
    go_upto_region 1 with (fail)
    rw [← hbe]
    clear hbe hv
    generalize w.alloc (.cells v.arr 29) = W at *
    have d1 := S.out.cell (ar1 v)
    by_cases ht : v.typ = 1
    · rw [ht] at d1
      have HSZ : Hid (sizeF (f + 1 + 1) v.it = (v.kids.map ItV.it).foldl (fun n k => min (n + sizeF (f + 1) k) 2147483648) 8) := by
        show _ = _
        rw [ItV.it_eq]
        exact sizeF_k ht
      clear ht
      have dk := S.out.cell (ar4 v)
      have hnn : v.ks.n ≤ 1099511627776 := (ItV.ok_iff.1 S.out.ok).2.1.sm
      obtain ⟨ka, hka⟩ : ∃ ka, v.ks.a = ka := ⟨_, rfl⟩
      rw [hka] at dk
      have HKA := hid hka; clear hka
      go_wp2_with fail
      clear d1 dk
      go_loopw [5, 6] (fun u y wr => SzSt (f + 1) v w b u y wr) (fun _ y _ => v.ks.n - (intOf y).toNat)
      case atStart => exact ⟨⟨0, 8, Nat.zero_le _, rfl, rfl, by omega, by simp, S.out⟩⟩
      case round =>
        obtain ⟨k, m, hk, rfl, rfl, hm, hacc, hs⟩ := hrel.ex
        clear hrel S
        have S := hid hs; have HACC := hid hacc; have HMM := hid hm
        clear hs hacc hm
        have dk := S.out.cell (ar4 v)
        rw [HKA.out] at dk
        by_cases hlt : k < v.ks.n
        · obtain ⟨bx, ox, x, hax, hx, hrow⟩ := (ItV.ok_iff.1 S.out.ok).2.1.row hlt
          rw [HKA.out] at hax
          subst hax
          have HX := hid ((ItV.ok_iff.1 S.out.ok).2.2 x (List.mem_of_getElem? hx))
          have HTK := hid (take_map_snoc hx)
          have HWX := hid (HWK.out x (List.mem_of_getElem? hx))
          have HR := hid hrow
          clear hx hrow
          go_wp2_with (refine wpList_load_mid rfl 29 _ rfl bx (ox + k * 5) rfl x.arr.toList _ HR.out Tryd.underlying29 rfl iSize ?_; simp only [Array.toArray_toList])
          refine (IH.out x _ (dz + 1) HD.out HD1.out HX.out HWX.out).mono ?_
          rintro e w6 ⟨rfl, hb6⟩
          dsimp only
          have hsz := sizeF_le (f + 1) x.it
          have HACC2 : Hid (min (m + sizeF (f + 1) x.it) 2147483648 = ((v.kids.take (k + 1)).map ItV.it).foldl (fun n k => min (n + sizeF (f + 1) k) 2147483648) 8) := by
            show _ = _
            rw [HTK.out, List.foldl_append, ← HACC.out]
            rfl
          have S6 := hid (S.out.below hb6)
          clear S hb6 HACC HTK HX HR HWX dk
          generalize sizeF (f + 1) x.it = q at *
          have hmm := HMM.out
          have hwm : IntKind.i64.wrap ((m : Int) + (q : Int)) = (m : Int) + (q : Int) := IntWalk.i64_in _ (by omega)
          go_wp2_with fail
          have HR : SzSt (f + 1) v w b (.int .i64 (min 2147483648 ((m : Int) + (q : Int)))) (.int .i64 ((k : Int) + 1)) _ := ⟨⟨k + 1, min (m + q) 2147483648, by omega, by go_num, by congr 1; omega, by omega, HACC2.out, S6.out⟩⟩
          go_roundw
          case rel => first | exact HR | ((repeat apply Exists.intro); exact HR) | ((repeat apply Exists.intro); exact ⟨HR, rfl⟩)
          case measure => (simp [intOf] <;> omega)
        · obtain rfl : k = v.ks.n := by omega
          have HF : Hid (m = sizeF (f + 1 + 1) v.it) := by
            show _ = _
            rw [HSZ.out, HACC.out, List.take_of_length_le (by have := (ItV.ok_iff.1 S.out.ok).2.1.klen; omega)]
          go_wp2_with fail
          go_ret
          exact ⟨by rw [← HF.out]; rfl, by rw [← HBE.out]; exact S.out.bel⟩
    · cases hq : isD v.typ with
      | true =>
        have d3 := S.out.cell (ar3 v)
        have hnn : v.ds.n ≤ 140737488355328 := (ItV.ok_iff.1 S.out.ok).1.sm
        have HDL := hid ((ItV.ok_iff.1 S.out.ok).1.lenB)
        have h8 : v.data.length = v.ds.n := HDL.out
        have hu := HW8.out
        rw [h8] at hu
        have HSZ : Hid (sizeF (f + 1 + 1) v.it = 8 + up8 v.ds.n) := by
          show _ = _
          rw [ItV.it_eq, sizeF_d ht hq]
          simp only [HDL.out]
          omega
        have h1 : IntKind.i64.wrap (((v.ds.n : Int) + 7).tdiv 8) = (((v.ds.n + 7) / 8 : Nat) : Int) := by
          rw [Int.tdiv_eq_ediv_of_nonneg (by omega)]
          rw [IntWalk.i64_in _ (by omega)]
          omega
        have HU : Hid (up8 v.ds.n = (v.ds.n + 7) / 8 * 8) := rfl
        obtain ⟨qd, hqd⟩ : ∃ q, q = (v.ds.n + 7) / 8 := ⟨_, rfl⟩
        rw [← hqd] at h1 HU
        have hq2 : qd ≤ 200000 := by rw [HU.out] at hu; omega
        clear hqd h8 hu
        rcases isD_iff.1 hq with e | e | e
        · rw [e] at d1
          clear e hq ht
          go_wp2_with fail
          go_ret
          exact ⟨by rw [HSZ.out, HU.out]; exact i64_ret (by omega), by rw [← HBE.out]; exact S.out.bel⟩
        · rw [e] at d1
          clear e hq ht
          go_wp2_with fail
          go_ret
          exact ⟨by rw [HSZ.out, HU.out]; exact i64_ret (by omega), by rw [← HBE.out]; exact S.out.bel⟩
        · rw [e] at d1
          clear e hq ht
          go_wp2_with fail
          go_ret
          exact ⟨by rw [HSZ.out, HU.out]; exact i64_ret (by omega), by rw [← HBE.out]; exact S.out.bel⟩
      | false =>
        have HSZ : Hid (sizeF (f + 1 + 1) v.it = 16) := by
          show _ = _
          rw [ItV.it_eq]
          exact sizeF_o ht hq
        have e1 : (v.typ == 1) = false := beq_eq_false_iff_ne.2 ht
        have e4 : (v.typ == 4) = false := beq_eq_false_iff_ne.2 (fun h => by rw [h] at hq; cases hq)
        have e7 : (v.typ == 7) = false := beq_eq_false_iff_ne.2 (fun h => by rw [h] at hq; cases hq)
        have e8 : (v.typ == 8) = false := beq_eq_false_iff_ne.2 (fun h => by rw [h] at hq; cases hq)
        clear hq ht
        go_wp2_with fail
        go_ret
        exact ⟨by rw [HSZ.out]; rfl, by rw [← HBE.out]; exact S.out.bel⟩
theorem rSize_any (v : ItV) (w : World) (hv : v.ok w) (hw : v.it.wt ≤ 1000000) : Calls Tryd.prog 24 #[.agg v.arr] w fun e w' => e = .returned (.int .i64 (sizeF 100 v.it : Nat)) ∧ Below w.heap.size w w' := by
  have HW := hid hw
  clear hw
  obtain ⟨b, hbe⟩ : ∃ b, b = w.heap.size := ⟨_, rfl⟩
  have S := hid (Bx.start hv)
  rw [← hbe] at S
  have HBE := hid hbe
  go_enter Tryd.func24, Tryd.ntmps24
  go_upto_region 1 with (fail)
  rw [← hbe]
  clear hbe hv
  generalize w.alloc (.cells v.arr 29) = W at *
  go_wp2_with (refine wpList_load_row rfl 29 _ rfl b rfl _ _ _ _ S.out.box Tryd.underlying29 rfl iSize ?_)
  refine (rsize_any 99 v _ 0 (by decide) (by decide) S.out.ok HW.out).mono ?_
  rintro e w6 ⟨rfl, hb6⟩
  dsimp only
  have S6 := hid (S.out.below hb6)
  clear S hb6
  have S := S6
  go_wp2_with fail
  go_ret
  exact ⟨rfl, by rw [← HBE.out]; exact S.out.bel⟩
end Go.Proofs.YtmpajhacigjloaaDoor
