/- ttlv: an item's bytes are as many as its size says; Encode. -/
import Derived.Test.YteenglgnakenmaaDoorTtl4
namespace Go.Proofs.YteenglgnakenmaaDoor
open Go.RowKit
set_option linter.unusedVariables false
set_option linter.unusedSimpArgs false
set_option maxRecDepth 100000
set_option maxHeartbeats 3200000
def sumL (s : Itm → Nat) : List Itm → Nat
  | [] => 0
  | x :: l => s x + sumL s l
theorem fold_mono (s : Itm → Nat) : ∀ (l : List Itm) (n : Nat), n < 2147483648 → l.foldl (fun n k => min (n + s k) 2147483648) n < 2147483648 → n + sumL s l = l.foldl (fun n k => min (n + s k) 2147483648) n ∧ ∀ x ∈ l, s x < 2147483648
  | [], n, _, _ => ⟨rfl, fun x hx => by cases hx⟩
  | y :: l, n, hn, h => by
    have h0 : (y :: l).foldl (fun n k => min (n + s k) 2147483648) n = l.foldl (fun n k => min (n + s k) 2147483648) (min (n + s y) 2147483648) := rfl
    rw [h0] at h ⊢
    have hge : ∀ (l : List Itm) (m : Nat), m ≤ 2147483648 → m ≤ l.foldl (fun n k => min (n + s k) 2147483648) m := by
      intro l
      induction l with
      | nil => exact fun m _ => Nat.le_refl _
      | cons z l ih =>
        intro m hm
        have := ih (min (m + s z) 2147483648) (Nat.min_le_right _ _)
        have h2 : (z :: l).foldl (fun n k => min (n + s k) 2147483648) m = l.foldl (fun n k => min (n + s k) 2147483648) (min (m + s z) 2147483648) := rfl
        rw [h2]
        omega
    have h1 := hge l (min (n + s y) 2147483648) (Nat.min_le_right _ _)
    have h2 : n + s y < 2147483648 := by omega
    rw [Nat.min_eq_left (by omega)] at h ⊢
    obtain ⟨h3, h4⟩ := fold_mono s l (n + s y) h2 h
    refine ⟨by simp only [sumL]; omega, fun x hx => ?_⟩
    rcases List.mem_cons.1 hx with rfl | h'
    · omega
    · exact h4 x h'
theorem walkL_mem {one : Itm → Nat → Option Nat} : ∀ (l : List Itm) (c c' : Nat), walkL one l c = some c' → ∀ x ∈ l, ∃ d d', one x d = some d'
  | [], c, c', h, x, hx => by cases hx
  | y :: l, c, c', h, x, hx => by
    simp only [walkL] at h
    cases h1 : one y c with
    | none => rw [h1] at h; cases h
    | some d =>
      rw [h1] at h
      rcases List.mem_cons.1 hx with rfl | h'
      · exact ⟨c, d, h1⟩
      · exact walkL_mem l d c' h x h'
theorem encAll_sum {s : Itm → Nat} : ∀ (l : List Itm), (∀ x ∈ l, x.enc.length = s x) → (encAll l).length = sumL s l
  | [], _ => rfl
  | y :: l, h => by
    simp only [encAll, List.length_append, sumL]
    rw [h y (by simp), encAll_sum l (fun x hx => h x (by simp [hx]))]
/-- An item that is not too deep is as long as its size says. -/
theorem enc_size : ∀ (f : Nat) (i : Itm) (c c' : Nat), walkP f i c = some c' → ∀ g, f ≤ g → sizeF g i < 2147483648 → i.enc.length = sizeF g i
  | 0, i, c, c', h, g, _, _ => by simp [walkP] at h
  | f + 1, i, c, c', h, g, hg, hs => by
    obtain ⟨g', rfl⟩ : ∃ g', g = g' + 1 := ⟨g - 1, by omega⟩
    rw [walkP] at h
    split at h
    · rename_i hc
      rw [enc_len]
      by_cases ht : i.typ = 1
      · rw [sizeF_k ht] at hs ⊢
        obtain ⟨h1, h2⟩ := fold_mono (sizeF g') i.kids 8 (by decide) hs
        have h3 : (encAll i.kids).length = sumL (sizeF g') i.kids := encAll_sum i.kids fun x hx => by
          obtain ⟨d, d', hd⟩ := walkL_mem i.kids _ _ h x hx
          exact enc_size f x d d' hd g' (by omega) (h2 x hx)
        have h4 := encAll_mod i.kids
        have h5 : bodyI i = encAll i.kids := by unfold bodyI; rw [if_pos ht]
        rw [h5, ← h1]
        unfold up8
        omega
      · cases hd : isD i.typ with
        | true =>
          rw [sizeF_d ht hd] at hs ⊢
          have h5 : bodyI i = i.data := by unfold bodyI; rw [if_neg ht, if_pos hd]
          rw [h5]
          unfold up8 at *
          omega
        | false =>
          rw [sizeF_o ht hd]
          cases hq : isS i.typ with
          | true =>
            have h5 : bodyI i = be 4 (u64nat i.int) := by unfold bodyI; rw [if_neg ht, if_neg (by rw [hd]; decide), if_pos hq]
            rw [h5, be_len]; rfl
          | false =>
            have h5 : bodyI i = be 8 (u64nat i.int) := by unfold bodyI; rw [if_neg ht, if_neg (by rw [hd]; decide), if_neg (by rw [hq]; decide)]
            rw [h5, be_len]; rfl
    · cases h
theorem right_size {i : Itm} (h : rightI i = true) : i.enc.length = sizeF 100 i ∧ sizeF 100 i ≤ 8192 := by
  unfold rightI at h
  rw [Bool.and_eq_true, decide_eq_true_eq] at h
  obtain ⟨c, hc⟩ := Option.isSome_iff_exists.1 h.1
  exact ⟨enc_size 12 i 0 c hc 100 (by decide) (by omega), h.2⟩
/-- What Encode answers. -/
def EncRes (i : Itm) (w : World) (e : Ending) (w' : World) : Prop :=
  Below w.heap.size w w' ∧ ((rightI i = false ∧ e = .returned (.tuple #[.slice none 0 0, .int .i64 1])) ∨ (rightI i = true ∧ ∃ a n c, e = .returned (.tuple #[.slice a n c, .int .i64 0]) ∧ w'.ownsRow w.heap.size 5 1 (.slice a n c) n (i.enc.map B8)))
theorem Encode_any (v : ItV) (w : World) (hv : v.ok w) (hT : UT w) : Calls Tryd.prog 7 #[.agg v.arr] w (EncRes v.it w) := by
  have HT0 := hid hT
  have HLT := hid hv.lt
  clear hT
  obtain ⟨b, hbe⟩ : ∃ b, b = w.heap.size := ⟨_, rfl⟩
  have S := hid (Bx.start hv)
  rw [← hbe] at S
  have HBE := hid hbe
  go_enter Tryd.func7, Tryd.ntmps7
  go_upto_region 1 with (fail)
  rw [← hbe]
  clear hbe hv
  generalize w.alloc (.cells v.arr 30) = W at *
  go_wp2_with (refine wpList_load_row rfl 30 _ rfl b rfl _ _ _ _ S.out.box Tryd.underlying30 rfl iSize ?_)
  refine (Right_any v _ S.out.ok (HT0.out.below (by rw [← HBE.out]; exact S.out.bel))).mono ?_
  rintro e w2 ⟨rfl, hb⟩
  dsimp only
  have S2 := hid (S.out.below hb)
  clear S hb
  have S := S2
  clear S2
  cases hr : rightI v.it with
  | false =>
    have HR := hid hr
    clear hr
    go_wp2_with fail
    go_ret2
    exact ⟨by rw [← HBE.out]; exact S.out.bel, .inl ⟨HR.out, rfl⟩⟩
  | true =>
    have HR := hid hr
    clear hr
    go_wp2_with fail
    refine (oNew_any _).mono ?_
    rintro e w3 ⟨rfl, hw, hb3, hsz⟩
    dsimp only
    have HBS := hid (block_lt S.out.box)
    have S2 := hid (S.out.below hb3)
    have HVL := hid S.out.ok.lt
    clear S hb3
    have S := S2
    clear S2
    have HBP : Hid (b < w2.heap.size) := HBS.out
    obtain ⟨p, hp⟩ : ∃ p, p = w2.heap.size := ⟨_, rfl⟩
    rw [← hp] at hw HBP HVL ⊢
    have HW := hid hw
    clear hw hp hsz HBS
    go_wp2_with (refine wpList_load_row rfl 30 _ rfl b rfl _ _ _ _ S.out.box Tryd.underlying30 rfl iSize ?_)
    refine (lay_any v _ p [] [p] S.out.ok HW.out (fun k hk hm => by have h1 := HVL.out k hk; have h2 := List.mem_singleton.1 hm; omega) rfl (by have h1 := right_size HR.out; simp only [List.length_nil]; omega)).mono ?_
    rintro e w4 ⟨F', rfl, hw4, hc4, hf4⟩
    dsimp only
    rw [List.nil_append] at hw4
    have HB4 := hid (S.out.bel.trans (hc4.below (fun k hk => by have h1 := List.mem_singleton.1 hk; have h2 := HBP.out; omega) (Nat.le_of_lt (block_lt S.out.box))))
    clear hc4 hf4 HW S
    go_wp2_with fail
    refine (oBytes_any p _ F' _ hw4 (by have h1 := right_size HR.out; omega)).mono ?_
    rintro e w5 ⟨a, n, c, rfl, ho, hb5⟩
    dsimp only
    have HO : Hid (w5.ownsRow w.heap.size 5 1 (.slice a n c) n (v.it.enc.map B8)) := ownsRow_base ho (fun q hq => by have h1 := (ho.lt q hq).1; have h2 := HB4.out.size; have h3 := HBE.out; omega)
    have HB5 := hid (HB4.out.trans (Below.mono hb5 (by have h2 := HB4.out.size; have h3 := HBE.out; omega)))
    clear ho hb5 hw4
    go_wp2_with fail
    go_ret2
    exact ⟨by rw [← HBE.out]; exact HB5.out, .inr ⟨HR.out, a, n, c, rfl, HO.out⟩⟩
end Go.Proofs.YteenglgnakenmaaDoor
