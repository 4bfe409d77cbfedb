/- The reference's right, Right: their walk. -/
import Derived.Test.YtmpajhacigjloaaDoorRefT2
namespace Go.Proofs.YtmpajhacigjloaaDoor
open Go.RowKit
set_option linter.unusedVariables false
set_option linter.unusedSimpArgs false
set_option maxRecDepth 100000
set_option maxHeartbeats 3200000
theorem badB_1 {k n : Int} {nd nk : Nat} (h : k ≠ 1) (h2 : 0 < nk) : badB k n nd nk = true := by unfold badB; simp [h, h2]
theorem badB_2 {k n : Int} {nd nk : Nat} (h : isD k = false) (h2 : 0 < nd) : badB k n nd nk = true := by unfold badB; simp [h, h2]
theorem badB_3 {k n : Int} {nd nk : Nat} (h : isD k = true ∨ k = 1) (h2 : n ≠ 0) : badB k n nd nk = true := by
  unfold badB
  rcases h with h | h <;> simp [h, h2]
theorem badB_0 {k n : Int} {nd nk : Nat} (h1 : k = 1 ∨ nk = 0) (h2 : isD k = true ∨ nd = 0) (h3 : n = 0 ∨ (isD k = false ∧ k ≠ 1)) : badB k n nd nk = false := by
  unfold badB
  rcases h1 with h1 | h1 <;> rcases h2 with h2 | h2 <;> rcases h3 with h3 | ⟨h3, h4⟩ <;> simp_all
theorem rL_f {one : Itm → Nat × Bool} : ∀ (l : List Itm) (n : Nat), (rL one l n).2 = false → (rL one l n).1 = 0
  | [], n, h => by cases h
  | k :: r, n, h => by
    rw [rL] at h ⊢
    split
    · rfl
    · rename_i hc
      rw [if_neg hc] at h
      exact rL_f r _ h
theorem rR_600 (f : Nat) (i : Itm) : (rR f i).1 ≤ 600 := by
  cases h : (rR f i).2 with
  | true => exact rR_le f i h
  | false =>
    cases f with
    | zero => exact Nat.zero_le _
    | succ f =>
      rw [rR] at h ⊢
      split
      · exact Nat.zero_le _
      · rename_i h1
        rw [if_neg h1] at h
        split
        · exact Nat.zero_le _
        · rename_i h2
          rw [if_neg h2] at h
          split
          · rename_i h3
            rw [if_pos h3] at h
            rw [rL_f _ _ h]; exact Nat.zero_le _
          · show 1 ≤ 600; decide
structure RrSt (f : Nat) (v : ItV) (w : World) (b : Nat) (y7 y9 : Value) (wr : World) : Prop where
  ex : ∃ (k n : Nat), k ≤ v.ks.n ∧ y9 = .int .i64 k ∧ y7 = .int .i64 n ∧ n ≤ 600 ∧ rL (rR f) ((v.kids.drop k).map ItV.it) n = rL (rR f) (v.kids.map ItV.it) 1 ∧ Bx w wr b v
theorem rright_any : ∀ (f : Nat) (v : ItV) (w : World) (dz : Int), dz + f = 13 → 1 ≤ dz → v.ok w → UT w →
    Calls Tryd.prog 36 #[.agg v.arr, .int .i64 dz] w fun e w' => e = .returned (.tuple #[.int .i64 (rR f v.it).1, .bool (rR f v.it).2]) ∧ Below w.heap.size w w' := by
  intro f
  induction f with
  | zero =>
    intro v w dz hd h1 hv hT
    obtain rfl : dz = 13 := by omega
    clear hT
    obtain ⟨b, hbe⟩ : ∃ b, b = w.heap.size := ⟨_, rfl⟩
    have S := hid (Bx.start hv)
    rw [← hbe] at S
    have HBE := hid hbe
    go_enter Tryd.func36, Tryd.ntmps36
    go_upto_region 1 with (fail)
    rw [← hbe]
    clear hbe hv
    generalize w.alloc (.cells v.arr 29) = W at *
    go_wp2_with fail
    go_ret2
    exact ⟨rfl, by rw [← HBE.out]; exact S.out.bel⟩
  | succ f ih =>
    intro v w dz hd h1 hv hT
    have IH := hid ih; have HT := hid hT
    have hdz : ¬ (12 : Int) < dz := by omega
    have HD := hid (show dz + 1 + (f : Int) = 13 by omega)
    have HD1 := hid (show 1 ≤ dz + 1 by omega)
    have hwd : IntKind.i64.wrap (dz + 1) = dz + 1 := IntWalk.i64_in _ (by omega)
    clear ih hd hT
    obtain ⟨b, hbe⟩ : ∃ b, b = w.heap.size := ⟨_, rfl⟩
    have S := hid (Bx.start hv)
    rw [← hbe] at S
    have HBE := hid hbe
    go_enter Tryd.func36, Tryd.ntmps36
    go_upto_region 1 with (fail)
    rw [← hbe]
    clear hbe hv
    generalize w.alloc (.cells v.arr 29) = W at *
    have d0 := S.out.cell (ar0 v)
    have d1 := S.out.cell (ar1 v)
    have d2 := S.out.cell (ar2 v)
    have d3 := S.out.cell (ar3 v)
    have d4 := S.out.cell (ar4 v)
    have hn3 : v.ds.n ≤ 140737488355328 := (ItV.ok_iff.1 S.out.ok).1.sm
    have hn4 : v.ks.n ≤ 1099511627776 := (ItV.ok_iff.1 S.out.ok).2.1.sm
    have HDL := hid ((ItV.ok_iff.1 S.out.ok).1.lenB); have HKL := hid ((ItV.ok_iff.1 S.out.ok).2.1.klen)
    go_wp2_with fail
    refine (tagOk_any v.tag _).mono ?_
    rintro e w2 ⟨rfl, rfl⟩
    dsimp only
    clear d0
    cases ht : tagB v.tag with
    | false =>
      have HR : Hid (rR (f + 1) v.it = (0, false)) := by
        show _ = _
        rw [ItV.it_eq, rR, if_pos ht]
      clear ht
      go_wp2_with fail
      go_ret2
      exact ⟨by rw [HR.out]; rfl, by rw [← HBE.out]; exact S.out.bel⟩
    | true =>
      have HR0 : Hid (rR (f + 1) v.it = if badB v.typ v.int v.ds.n v.ks.n = true then (0, false) else if v.typ = 1 then rL (rR f) (v.kids.map ItV.it) 1 else (1, decide (1 ≤ v.typ) && (decide (v.typ ≤ 10) && (numB v.typ v.int && datB v.typ v.data)))) := by
        show _ = _
        have h1 := HDL.out; have h2 := HKL.out
        rw [ItV.it_eq, rR, if_neg (show ¬ (tagB v.tag = false) by rw [ht]; decide)]
        simp only [List.length_map, h1, h2]
      clear ht
      by_cases ht : 1 ≤ v.typ ∧ v.typ ≤ 10
      · have h10 : v.typ = 1 ∨ v.typ = 2 ∨ v.typ = 3 ∨ v.typ = 4 ∨ v.typ = 5 ∨ v.typ = 6 ∨ v.typ = 7 ∨ v.typ = 8 ∨ v.typ = 9 ∨ v.typ = 10 := by omega
        clear ht
        rcases h10 with hty | hty | hty | hty | hty | hty | hty | hty | hty | hty
        · rw [hty] at d1 HR0
          clear hty
          by_cases hd : 0 < v.ds.n
          · have hdz2 : (0 : Int) < (v.ds.n : Int) := by omega
            have HR : Hid (rR (f + 1) v.it = (0, false)) := by
              show _ = _
              rw [HR0.out, if_pos (badB_2 (by decide) hd)]
            clear HR0
            go_wp2_with fail
            go_ret2
            exact ⟨by rw [HR.out]; rfl, by rw [← HBE.out]; exact S.out.bel⟩
          have hdz2 : ¬ (0 : Int) < (v.ds.n : Int) := by omega
          by_cases hi : v.int = 0
          rotate_left
          · have hiz : (v.int != 0) = true := by simpa using hi
            have HR : Hid (rR (f + 1) v.it = (0, false)) := by
              show _ = _
              rw [HR0.out, if_pos (badB_3 (by decide) hi)]
            clear HR0
            go_wp2_with fail
            go_ret2
            exact ⟨by rw [HR.out]; rfl, by rw [← HBE.out]; exact S.out.bel⟩
          have hiz : (v.int != 0) = false := by simpa using hi
          have HG : Hid (badB 1 v.int v.ds.n v.ks.n = false) := badB_0 (.inl rfl) (.inr (by omega)) (.inl hi)
          have HR : Hid (rR (f + 1) v.it = rL (rR f) (v.kids.map ItV.it) 1) := by
            show _ = _
            rw [HR0.out, if_neg (by rw [HG.out]; decide), if_pos rfl]
          clear HR0 HG
          obtain ⟨ka, hka⟩ : ∃ ka, v.ks.a = ka := ⟨_, rfl⟩
          rw [hka] at d4
          have HKA := hid hka; clear hka
          have HAP : Hid (Below w.heap.size w W) := by have h := S.out.bel; rwa [HBE.out] at h
          go_wp2_with fail
          clear d1 d2 d3
          go_loopw [7, 9] (fun y7 y9 wr => RrSt f v w b y7 y9 wr) (fun _ y9 _ => v.ks.n - (intOf y9).toNat)
          case atStart => exact ⟨⟨0, 1, Nat.zero_le _, rfl, rfl, by decide, by simp, S.out⟩⟩
          case round =>
            obtain ⟨k, m, hk, rfl, rfl, hm, hacc, hs⟩ := hrel.ex
            clear hrel S d4
            have S := hid hs; have HACC := hid hacc; have HMM := hid hm
            clear hs hacc hm
            have d4 := S.out.cell (ar4 v)
            rw [HKA.out] at d4
            have HBW : Hid (Below w.heap.size w wr) := by have h := S.out.bel; rwa [HBE.out] at h
            by_cases hlt : k < v.ks.n
            · obtain ⟨bx, ox, x, hax, hx, hrow⟩ := (ItV.ok_iff.1 S.out.ok).2.1.row hlt
              rw [HKA.out] at hax
              subst hax
              have HX := hid ((ItV.ok_iff.1 S.out.ok).2.2 x (List.mem_of_getElem? hx))
              have HDR : Hid ((v.kids.drop k).map ItV.it = x.it :: (v.kids.drop (k + 1)).map ItV.it) := by
                have hl : k < v.kids.length := (List.getElem?_eq_some_iff.1 hx).1
                show _ = _
                rw [List.drop_eq_getElem_cons hl, show v.kids[k] = x by rw [List.getElem?_eq_getElem hl] at hx; exact Option.some.inj hx, List.map_cons]
              have HRW := hid hrow
              clear hx hrow
              go_wp2_with (refine wpList_load_mid rfl 29 _ rfl bx (ox + k * 5) rfl x.arr.toList _ HRW.out Tryd.underlying29 rfl iSize ?_; simp only [Array.toArray_toList])
              refine (IH.out x _ (dz + 1) HD.out HD1.out HX.out (HT.out.below HBW.out)).mono ?_
              rintro e w6 ⟨rfl, hb6⟩
              dsimp only
              have hq6 := rR_600 f x.it
              have hacc := HACC.out
              rw [HDR.out, rL] at hacc
              have S6 := hid (S.out.below hb6)
              clear S hb6 HX HRW d4 HACC HDR
              have S := S6
              obtain ⟨⟨q, is⟩, hqi⟩ : ∃ p, p = rR f x.it := ⟨_, rfl⟩
              rw [← hqi] at hq6 hacc ⊢
              dsimp only at hq6 hacc ⊢
              clear hqi
              have hmm := HMM.out
              have hwm : IntKind.i64.wrap ((m : Int) + (q : Int)) = (m : Int) + (q : Int) := IntWalk.i64_in _ (by omega)
              cases is with
              | false =>
                rw [if_pos (.inl rfl)] at hacc
                have HF : Hid (rR (f + 1) v.it = (0, false)) := by show _ = _; rw [HR.out, ← hacc]
                clear hacc
                go_wp2_with fail
                go_ret2
                exact ⟨by rw [HF.out]; rfl, by rw [← HBE.out]; exact S.out.bel⟩
              | true =>
                by_cases h6 : 600 < m + q
                · rw [if_pos (.inr h6)] at hacc
                  have h6z : (600 : Int) < (m : Int) + (q : Int) := by omega
                  have HF : Hid (rR (f + 1) v.it = (0, false)) := by show _ = _; rw [HR.out, ← hacc]
                  clear hacc h6
                  go_wp2_with fail
                  go_ret2
                  exact ⟨by rw [HF.out]; rfl, by rw [← HBE.out]; exact S.out.bel⟩
                · rw [if_neg (by simp only [not_or]; exact ⟨by decide, h6⟩)] at hacc
                  have h6z : ¬ (600 : Int) < (m : Int) + (q : Int) := by omega
                  have HA2 := hid hacc
                  have H6 := hid h6
                  clear hacc h6
                  go_wp2_with fail
                  have HRR : RrSt f v w b (.int .i64 ((m : Int) + (q : Int))) (.int .i64 ((k : Int) + 1)) _ := ⟨⟨k + 1, m + q, by omega, by go_num, by go_num, by have := H6.out; omega, HA2.out, S.out⟩⟩
                  go_roundw
                  case rel => first | exact HRR | ((repeat apply Exists.intro); exact HRR) | ((repeat apply Exists.intro); exact ⟨HRR, rfl⟩)
                  case measure => (simp [intOf] <;> omega)
            · obtain rfl : k = v.ks.n := by omega
              have HF : Hid (rR (f + 1) v.it = (m, true)) := by
                have h := HACC.out
                rw [List.drop_eq_nil_of_le (by have := HKL.out; omega)] at h
                show _ = _
                rw [HR.out, ← h]
                rfl
              go_wp2_with fail
              go_ret2
              exact ⟨by rw [HF.out]; rfl, by rw [← HBE.out]; exact S.out.bel⟩
        · rw [hty] at d1 HR0
          clear hty
          by_cases hk : 0 < v.ks.n
          · have hkz : (0 : Int) < (v.ks.n : Int) := by omega
            have HR : Hid (rR (f + 1) v.it = (0, false)) := by
              show _ = _
              rw [HR0.out, if_pos (badB_1 (by decide) hk)]
            clear HR0
            go_wp2_with fail
            go_ret2
            exact ⟨by rw [HR.out]; rfl, by rw [← HBE.out]; exact S.out.bel⟩
          have hkz : ¬ (0 : Int) < (v.ks.n : Int) := by omega
          by_cases hd : 0 < v.ds.n
          · have hdz2 : (0 : Int) < (v.ds.n : Int) := by omega
            have HR : Hid (rR (f + 1) v.it = (0, false)) := by
              show _ = _
              rw [HR0.out, if_pos (badB_2 (by decide) hd)]
            clear HR0
            go_wp2_with fail
            go_ret2
            exact ⟨by rw [HR.out]; rfl, by rw [← HBE.out]; exact S.out.bel⟩
          have hdz2 : ¬ (0 : Int) < (v.ds.n : Int) := by omega
          have HG : Hid (badB 2 v.int v.ds.n v.ks.n = false) := badB_0 (.inr (by omega)) (.inr (by omega)) (.inr ⟨rfl, by decide⟩)
          by_cases hb : -2147483648 ≤ v.int
          · have HR : Hid (rR (f + 1) v.it = (1, decide (v.int ≤ 2147483647))) := by
              show _ = _
              rw [HR0.out, if_neg (by rw [HG.out]; decide), if_neg (by decide)]
              have e : decide (v.int < 2147483648) = decide (v.int ≤ 2147483647) := by congr 1; exact propext (by omega)
              simp [numB, datB, hb, e]
            clear HR0 HG
            go_wp2_with fail
            go_ret2
            exact ⟨by rw [HR.out]; rfl, by rw [← HBE.out]; exact S.out.bel⟩
          have hb2 : v.int < -2147483648 := by omega
          have HR : Hid (rR (f + 1) v.it = (1, false)) := by
            show _ = _
            rw [HR0.out, if_neg (by rw [HG.out]; decide), if_neg (by decide)]
            simp [numB, datB, hb]
          clear HR0 HG
          go_wp2_with fail
          go_ret2
          exact ⟨by rw [HR.out]; rfl, by rw [← HBE.out]; exact S.out.bel⟩
        · rw [hty] at d1 HR0
          clear hty
          by_cases hk : 0 < v.ks.n
          · have hkz : (0 : Int) < (v.ks.n : Int) := by omega
            have HR : Hid (rR (f + 1) v.it = (0, false)) := by
              show _ = _
              rw [HR0.out, if_pos (badB_1 (by decide) hk)]
            clear HR0
            go_wp2_with fail
            go_ret2
            exact ⟨by rw [HR.out]; rfl, by rw [← HBE.out]; exact S.out.bel⟩
          have hkz : ¬ (0 : Int) < (v.ks.n : Int) := by omega
          by_cases hd : 0 < v.ds.n
          · have hdz2 : (0 : Int) < (v.ds.n : Int) := by omega
            have HR : Hid (rR (f + 1) v.it = (0, false)) := by
              show _ = _
              rw [HR0.out, if_pos (badB_2 (by decide) hd)]
            clear HR0
            go_wp2_with fail
            go_ret2
            exact ⟨by rw [HR.out]; rfl, by rw [← HBE.out]; exact S.out.bel⟩
          have hdz2 : ¬ (0 : Int) < (v.ds.n : Int) := by omega
          have HG : Hid (badB 3 v.int v.ds.n v.ks.n = false) := badB_0 (.inr (by omega)) (.inr (by omega)) (.inr ⟨rfl, by decide⟩)
          have HR : Hid (rR (f + 1) v.it = (1, true)) := by
            show _ = _
            rw [HR0.out, if_neg (by rw [HG.out]; decide), if_neg (by decide)]
            simp [numB, datB]
          clear HR0 HG
          go_wp2_with fail
          go_ret2
          exact ⟨by rw [HR.out]; rfl, by rw [← HBE.out]; exact S.out.bel⟩
        · rw [hty] at d1 HR0
          clear hty
          by_cases hk : 0 < v.ks.n
          · have hkz : (0 : Int) < (v.ks.n : Int) := by omega
            have HR : Hid (rR (f + 1) v.it = (0, false)) := by
              show _ = _
              rw [HR0.out, if_pos (badB_1 (by decide) hk)]
            clear HR0
            go_wp2_with fail
            go_ret2
            exact ⟨by rw [HR.out]; rfl, by rw [← HBE.out]; exact S.out.bel⟩
          have hkz : ¬ (0 : Int) < (v.ks.n : Int) := by omega
          by_cases hi : v.int = 0
          rotate_left
          · have hiz : (v.int != 0) = true := by simpa using hi
            have HR : Hid (rR (f + 1) v.it = (0, false)) := by
              show _ = _
              rw [HR0.out, if_pos (badB_3 (by decide) hi)]
            clear HR0
            go_wp2_with fail
            go_ret2
            exact ⟨by rw [HR.out]; rfl, by rw [← HBE.out]; exact S.out.bel⟩
          have hiz : (v.int != 0) = false := by simpa using hi
          have HG : Hid (badB 4 v.int v.ds.n v.ks.n = false) := badB_0 (.inr (by omega)) (.inl rfl) (.inl hi)
          have h8 := HDL.out
          have hmod : IntKind.i64.wrap ((v.ds.n : Int).tmod 8) = (v.ds.n : Int) % 8 := by rw [Int.tmod_eq_emod_of_nonneg (by omega)]; exact IntWalk.i64_in _ (by omega)
          by_cases hb : 0 < v.ds.n
          · have hbz : (0 : Int) < (v.ds.n : Int) := by omega
            have HR : Hid (rR (f + 1) v.it = (1, ((v.ds.n : Int) % 8 == 0))) := by
              show _ = _
              rw [HR0.out, if_neg (by rw [HG.out]; decide), if_neg (by decide)]
              have e : decide (v.ds.n % 8 = 0) = ((v.ds.n : Int) % 8 == 0) := by
                by_cases h : v.ds.n % 8 = 0
                · rw [show ((v.ds.n : Int) % 8 == 0) = true by rw [beq_iff_eq]; omega]; simp [h]
                · rw [beq_eq_false_iff_ne.2 (show (v.ds.n : Int) % 8 ≠ 0 by omega)]; simp [h]
              simp [numB, datB, h8, hb, e]
            clear HR0 HG
            go_wp2_with fail
            go_ret2
            exact ⟨by rw [HR.out]; rfl, by rw [← HBE.out]; exact S.out.bel⟩
          have hbz : ¬ (0 : Int) < (v.ds.n : Int) := by omega
          have HR : Hid (rR (f + 1) v.it = (1, false)) := by
            show _ = _
            rw [HR0.out, if_neg (by rw [HG.out]; decide), if_neg (by decide)]
            simp [numB, datB, h8, hb]
          clear HR0 HG
          go_wp2_with fail
          go_ret2
          exact ⟨by rw [HR.out]; rfl, by rw [← HBE.out]; exact S.out.bel⟩
        · rw [hty] at d1 HR0
          clear hty
          by_cases hk : 0 < v.ks.n
          · have hkz : (0 : Int) < (v.ks.n : Int) := by omega
            have HR : Hid (rR (f + 1) v.it = (0, false)) := by
              show _ = _
              rw [HR0.out, if_pos (badB_1 (by decide) hk)]
            clear HR0
            go_wp2_with fail
            go_ret2
            exact ⟨by rw [HR.out]; rfl, by rw [← HBE.out]; exact S.out.bel⟩
          have hkz : ¬ (0 : Int) < (v.ks.n : Int) := by omega
          by_cases hd : 0 < v.ds.n
          · have hdz2 : (0 : Int) < (v.ds.n : Int) := by omega
            have HR : Hid (rR (f + 1) v.it = (0, false)) := by
              show _ = _
              rw [HR0.out, if_pos (badB_2 (by decide) hd)]
            clear HR0
            go_wp2_with fail
            go_ret2
            exact ⟨by rw [HR.out]; rfl, by rw [← HBE.out]; exact S.out.bel⟩
          have hdz2 : ¬ (0 : Int) < (v.ds.n : Int) := by omega
          have HG : Hid (badB 5 v.int v.ds.n v.ks.n = false) := badB_0 (.inr (by omega)) (.inr (by omega)) (.inr ⟨rfl, by decide⟩)
          by_cases hb : 0 ≤ v.int
          · have HR : Hid (rR (f + 1) v.it = (1, decide (v.int ≤ 4294967295))) := by
              show _ = _
              rw [HR0.out, if_neg (by rw [HG.out]; decide), if_neg (by decide)]
              have e : decide (v.int < 4294967296) = decide (v.int ≤ 4294967295) := by congr 1; exact propext (by omega)
              simp [numB, datB, hb, e]
            clear HR0 HG
            go_wp2_with fail
            go_ret2
            exact ⟨by rw [HR.out]; rfl, by rw [← HBE.out]; exact S.out.bel⟩
          have hb2 : v.int < 0 := by omega
          have HR : Hid (rR (f + 1) v.it = (1, false)) := by
            show _ = _
            rw [HR0.out, if_neg (by rw [HG.out]; decide), if_neg (by decide)]
            simp [numB, datB, hb]
          clear HR0 HG
          go_wp2_with fail
          go_ret2
          exact ⟨by rw [HR.out]; rfl, by rw [← HBE.out]; exact S.out.bel⟩
        · rw [hty] at d1 HR0
          clear hty
          by_cases hk : 0 < v.ks.n
          · have hkz : (0 : Int) < (v.ks.n : Int) := by omega
            have HR : Hid (rR (f + 1) v.it = (0, false)) := by
              show _ = _
              rw [HR0.out, if_pos (badB_1 (by decide) hk)]
            clear HR0
            go_wp2_with fail
            go_ret2
            exact ⟨by rw [HR.out]; rfl, by rw [← HBE.out]; exact S.out.bel⟩
          have hkz : ¬ (0 : Int) < (v.ks.n : Int) := by omega
          by_cases hd : 0 < v.ds.n
          · have hdz2 : (0 : Int) < (v.ds.n : Int) := by omega
            have HR : Hid (rR (f + 1) v.it = (0, false)) := by
              show _ = _
              rw [HR0.out, if_pos (badB_2 (by decide) hd)]
            clear HR0
            go_wp2_with fail
            go_ret2
            exact ⟨by rw [HR.out]; rfl, by rw [← HBE.out]; exact S.out.bel⟩
          have hdz2 : ¬ (0 : Int) < (v.ds.n : Int) := by omega
          have HG : Hid (badB 6 v.int v.ds.n v.ks.n = false) := badB_0 (.inr (by omega)) (.inr (by omega)) (.inr ⟨rfl, by decide⟩)
          by_cases hb : v.int = 0
          · have hbb : (v.int == 0) = true := by simpa using hb
            have HR : Hid (rR (f + 1) v.it = (1, true)) := by
              show _ = _
              rw [HR0.out, if_neg (by rw [HG.out]; decide), if_neg (by decide)]
              simp [numB, datB, hb]
            clear HR0 HG
            go_wp2_with fail
            go_ret2
            exact ⟨by rw [HR.out]; rfl, by rw [← HBE.out]; exact S.out.bel⟩
          have hbb : (v.int == 0) = false := by simpa using hb
          have HR : Hid (rR (f + 1) v.it = (1, (v.int == 1))) := by
            show _ = _
            rw [HR0.out, if_neg (by rw [HG.out]; decide), if_neg (by decide)]
            simp [numB, datB, hbb]
          clear HR0 HG
          go_wp2_with fail
          go_ret2
          exact ⟨by rw [HR.out]; rfl, by rw [← HBE.out]; exact S.out.bel⟩
        · rw [hty] at d1 HR0
          clear hty
          by_cases hk : 0 < v.ks.n
          · have hkz : (0 : Int) < (v.ks.n : Int) := by omega
            have HR : Hid (rR (f + 1) v.it = (0, false)) := by
              show _ = _
              rw [HR0.out, if_pos (badB_1 (by decide) hk)]
            clear HR0
            go_wp2_with fail
            go_ret2
            exact ⟨by rw [HR.out]; rfl, by rw [← HBE.out]; exact S.out.bel⟩
          have hkz : ¬ (0 : Int) < (v.ks.n : Int) := by omega
          by_cases hi : v.int = 0
          rotate_left
          · have hiz : (v.int != 0) = true := by simpa using hi
            have HR : Hid (rR (f + 1) v.it = (0, false)) := by
              show _ = _
              rw [HR0.out, if_pos (badB_3 (by decide) hi)]
            clear HR0
            go_wp2_with fail
            go_ret2
            exact ⟨by rw [HR.out]; rfl, by rw [← HBE.out]; exact S.out.bel⟩
          have hiz : (v.int != 0) = false := by simpa using hi
          have HG : Hid (badB 7 v.int v.ds.n v.ks.n = false) := badB_0 (.inr (by omega)) (.inl rfl) (.inl hi)
          have HBS : Hid (Below w.heap.size w W) := by have h := S.out.bel; rwa [HBE.out] at h
          have HR : Hid (rR (f + 1) v.it = (1, Lib.validD v.data)) := by
            show _ = _
            rw [HR0.out, if_neg (by rw [HG.out]; decide), if_neg (by decide)]
            simp [numB, datB]
          clear HR0 HG
          have rc := run_bytes_str (P := Tryd.prog) (ItV.ok_iff.1 S.out.ok).1.rdB v.ds.c 23 9 5 Tryd.underlying23 Tryd.underlying5 Tryd.underlying9
          go_wp2_with fail
          refine (valid_any ⟨v.data.toArray⟩ _ (by have h1 := HDL.out; show v.data.toArray.size ≤ _; simp; omega) (HT.out.below HBS.out)).mono ?_
          rintro e w3 ⟨rfl, hb3⟩
          dsimp only
          have S3 := hid (S.out.below hb3)
          clear S hb3 rc d1 d2 d3 d4
          have S := S3
          go_wp2_with fail
          go_ret2
          exact ⟨by rw [HR.out]; rfl, by rw [← HBE.out]; exact S.out.bel⟩
        · rw [hty] at d1 HR0
          clear hty
          by_cases hk : 0 < v.ks.n
          · have hkz : (0 : Int) < (v.ks.n : Int) := by omega
            have HR : Hid (rR (f + 1) v.it = (0, false)) := by
              show _ = _
              rw [HR0.out, if_pos (badB_1 (by decide) hk)]
            clear HR0
            go_wp2_with fail
            go_ret2
            exact ⟨by rw [HR.out]; rfl, by rw [← HBE.out]; exact S.out.bel⟩
          have hkz : ¬ (0 : Int) < (v.ks.n : Int) := by omega
          by_cases hi : v.int = 0
          rotate_left
          · have hiz : (v.int != 0) = true := by simpa using hi
            have HR : Hid (rR (f + 1) v.it = (0, false)) := by
              show _ = _
              rw [HR0.out, if_pos (badB_3 (by decide) hi)]
            clear HR0
            go_wp2_with fail
            go_ret2
            exact ⟨by rw [HR.out]; rfl, by rw [← HBE.out]; exact S.out.bel⟩
          have hiz : (v.int != 0) = false := by simpa using hi
          have HG : Hid (badB 8 v.int v.ds.n v.ks.n = false) := badB_0 (.inr (by omega)) (.inl rfl) (.inl hi)
          have HR : Hid (rR (f + 1) v.it = (1, true)) := by
            show _ = _
            rw [HR0.out, if_neg (by rw [HG.out]; decide), if_neg (by decide)]
            simp [numB, datB]
          clear HR0 HG
          go_wp2_with fail
          go_ret2
          exact ⟨by rw [HR.out]; rfl, by rw [← HBE.out]; exact S.out.bel⟩
        · rw [hty] at d1 HR0
          clear hty
          by_cases hk : 0 < v.ks.n
          · have hkz : (0 : Int) < (v.ks.n : Int) := by omega
            have HR : Hid (rR (f + 1) v.it = (0, false)) := by
              show _ = _
              rw [HR0.out, if_pos (badB_1 (by decide) hk)]
            clear HR0
            go_wp2_with fail
            go_ret2
            exact ⟨by rw [HR.out]; rfl, by rw [← HBE.out]; exact S.out.bel⟩
          have hkz : ¬ (0 : Int) < (v.ks.n : Int) := by omega
          by_cases hd : 0 < v.ds.n
          · have hdz2 : (0 : Int) < (v.ds.n : Int) := by omega
            have HR : Hid (rR (f + 1) v.it = (0, false)) := by
              show _ = _
              rw [HR0.out, if_pos (badB_2 (by decide) hd)]
            clear HR0
            go_wp2_with fail
            go_ret2
            exact ⟨by rw [HR.out]; rfl, by rw [← HBE.out]; exact S.out.bel⟩
          have hdz2 : ¬ (0 : Int) < (v.ds.n : Int) := by omega
          have HG : Hid (badB 9 v.int v.ds.n v.ks.n = false) := badB_0 (.inr (by omega)) (.inr (by omega)) (.inr ⟨rfl, by decide⟩)
          have HR : Hid (rR (f + 1) v.it = (1, true)) := by
            show _ = _
            rw [HR0.out, if_neg (by rw [HG.out]; decide), if_neg (by decide)]
            simp [numB, datB]
          clear HR0 HG
          go_wp2_with fail
          go_ret2
          exact ⟨by rw [HR.out]; rfl, by rw [← HBE.out]; exact S.out.bel⟩
        · rw [hty] at d1 HR0
          clear hty
          by_cases hk : 0 < v.ks.n
          · have hkz : (0 : Int) < (v.ks.n : Int) := by omega
            have HR : Hid (rR (f + 1) v.it = (0, false)) := by
              show _ = _
              rw [HR0.out, if_pos (badB_1 (by decide) hk)]
            clear HR0
            go_wp2_with fail
            go_ret2
            exact ⟨by rw [HR.out]; rfl, by rw [← HBE.out]; exact S.out.bel⟩
          have hkz : ¬ (0 : Int) < (v.ks.n : Int) := by omega
          by_cases hd : 0 < v.ds.n
          · have hdz2 : (0 : Int) < (v.ds.n : Int) := by omega
            have HR : Hid (rR (f + 1) v.it = (0, false)) := by
              show _ = _
              rw [HR0.out, if_pos (badB_2 (by decide) hd)]
            clear HR0
            go_wp2_with fail
            go_ret2
            exact ⟨by rw [HR.out]; rfl, by rw [← HBE.out]; exact S.out.bel⟩
          have hdz2 : ¬ (0 : Int) < (v.ds.n : Int) := by omega
          have HG : Hid (badB 10 v.int v.ds.n v.ks.n = false) := badB_0 (.inr (by omega)) (.inr (by omega)) (.inr ⟨rfl, by decide⟩)
          by_cases hb : 0 ≤ v.int
          · have HR : Hid (rR (f + 1) v.it = (1, decide (v.int ≤ 4294967295))) := by
              show _ = _
              rw [HR0.out, if_neg (by rw [HG.out]; decide), if_neg (by decide)]
              have e : decide (v.int < 4294967296) = decide (v.int ≤ 4294967295) := by congr 1; exact propext (by omega)
              simp [numB, datB, hb, e]
            clear HR0 HG
            go_wp2_with fail
            go_ret2
            exact ⟨by rw [HR.out]; rfl, by rw [← HBE.out]; exact S.out.bel⟩
          have hb2 : v.int < 0 := by omega
          have HR : Hid (rR (f + 1) v.it = (1, false)) := by
            show _ = _
            rw [HR0.out, if_neg (by rw [HG.out]; decide), if_neg (by decide)]
            simp [numB, datB, hb]
          clear HR0 HG
          go_wp2_with fail
          go_ret2
          exact ⟨by rw [HR.out]; rfl, by rw [← HBE.out]; exact S.out.bel⟩
      · have e0 := True.intro
        have e1 : (v.typ == 1) = false := beq_eq_false_iff_ne.2 (by omega)
        have e2 : (v.typ == 2) = false := beq_eq_false_iff_ne.2 (by omega)
        have e3 : (v.typ == 3) = false := beq_eq_false_iff_ne.2 (by omega)
        have e4 : (v.typ == 4) = false := beq_eq_false_iff_ne.2 (by omega)
        have e5 : (v.typ == 5) = false := beq_eq_false_iff_ne.2 (by omega)
        have e6 : (v.typ == 6) = false := beq_eq_false_iff_ne.2 (by omega)
        have e7 : (v.typ == 7) = false := beq_eq_false_iff_ne.2 (by omega)
        have e8 : (v.typ == 8) = false := beq_eq_false_iff_ne.2 (by omega)
        have e9 : (v.typ == 9) = false := beq_eq_false_iff_ne.2 (by omega)
        have e10 : (v.typ == 10) = false := beq_eq_false_iff_ne.2 (by omega)
        have hk1 : v.typ ≠ 1 := by omega
        have hkd : isD v.typ = false := by unfold isD; rw [e4, e7, e8]; rfl
        have hn1 : (v.typ != 1) = true := by simpa using hk1
        by_cases hk : 0 < v.ks.n
        · have hkz : (0 : Int) < (v.ks.n : Int) := by omega
          have HR : Hid (rR (f + 1) v.it = (0, false)) := by
            show _ = _
            rw [HR0.out, if_pos (badB_1 hk1 hk)]
          clear HR0
          go_wp2_with fail
          go_ret2
          exact ⟨by rw [HR.out]; rfl, by rw [← HBE.out]; exact S.out.bel⟩
        have hkz : ¬ (0 : Int) < (v.ks.n : Int) := by omega
        by_cases hd : 0 < v.ds.n
        · have hdz2 : (0 : Int) < (v.ds.n : Int) := by omega
          have HR : Hid (rR (f + 1) v.it = (0, false)) := by
            show _ = _
            rw [HR0.out, if_pos (badB_2 hkd hd)]
          clear HR0
          go_wp2_with fail
          go_ret2
          exact ⟨by rw [HR.out]; rfl, by rw [← HBE.out]; exact S.out.bel⟩
        have hdz2 : ¬ (0 : Int) < (v.ds.n : Int) := by omega
        have HG : Hid (badB v.typ v.int v.ds.n v.ks.n = false) := badB_0 (.inr (by omega)) (.inr (by omega)) (.inr ⟨hkd, hk1⟩)
        have HR : Hid (rR (f + 1) v.it = (1, false)) := by
          show _ = _
          rw [HR0.out, if_neg (by rw [HG.out]; decide), if_neg (hk1)]
          by_cases h : 1 ≤ v.typ
          · rw [decide_eq_false (show ¬ v.typ ≤ 10 by omega)]; simp
          · rw [decide_eq_false h]; rfl
        clear HR0 HG
        go_wp2_with fail
        go_ret2
        exact ⟨by rw [HR.out]; rfl, by rw [← HBE.out]; exact S.out.bel⟩
end Go.Proofs.YtmpajhacigjloaaDoor
