/- ttlv, plain: how long an item of raw rows is at most; a structure is as long as its head and its kids. -/
import Derived.Test.YtmpajhacigjloaaDoorTtlM
namespace Go.Proofs.YtmpajhacigjloaaDoor
open Go.RowKit
set_option linter.unusedVariables false
set_option linter.unusedSimpArgs false
set_option maxRecDepth 100000
set_option maxHeartbeats 3200000
mutual
/-- A bound of an item's size. -/
def Itm.wt : Itm → Nat
  | ⟨t, k, n, d, ks⟩ => 16 + up8 d.length + wtAll ks
def wtAll : List Itm → Nat
  | [] => 0
  | x :: l => x.wt + wtAll l
end
theorem wt_eq (i : Itm) : i.wt = 16 + up8 i.data.length + wtAll i.kids := by cases i; simp only [Itm.wt]
theorem wtAll_app (a b : List Itm) : wtAll (a ++ b) = wtAll a + wtAll b := by
  induction a with
  | nil => simp [wtAll]
  | cons x a ih => simp only [List.cons_append, wtAll, ih]; omega
theorem fold_sum (s : Itm → Nat) : ∀ (l : List Itm) (n : Nat), l.foldl (fun n k => min (n + s k) 2147483648) n ≤ n + sumL s l
  | [], n => Nat.le_refl _
  | y :: l, n => by
    have h := fold_sum s l (min (n + s y) 2147483648)
    have h2 := Nat.min_le_left (n + s y) 2147483648
    simp only [List.foldl_cons, sumL]
    omega
theorem sumL_wt {s : Itm → Nat} : ∀ (l : List Itm), (∀ x ∈ l, s x ≤ x.wt) → sumL s l ≤ wtAll l
  | [], _ => Nat.le_refl _
  | y :: l, h => by
    have h1 := h y (by simp)
    have h2 := sumL_wt l (fun x hx => h x (by simp [hx]))
    simp only [sumL, wtAll]
    omega
theorem sizeF_wt : ∀ (f : Nat) (i : Itm), sizeF f i ≤ i.wt
  | 0, i => by simp [sizeF]
  | f + 1, i => by
    have hw := wt_eq i
    by_cases ht : i.typ = 1
    · rw [sizeF_k ht]
      have h1 := fold_sum (sizeF f) i.kids 8
      have h2 := sumL_wt (s := sizeF f) i.kids (fun x _ => sizeF_wt f x)
      omega
    · cases hd : isD i.typ with
      | true => rw [sizeF_d ht hd]; omega
      | false => rw [sizeF_o ht hd]; omega
def dep : Nat → Itm → Prop
  | 0, _ => False
  | d + 1, i => ∀ x ∈ i.kids, dep d x
theorem fold_congr {s s' : Itm → Nat} : ∀ (l : List Itm) (n : Nat), (∀ x ∈ l, s x = s' x) → l.foldl (fun n k => min (n + s k) 2147483648) n = l.foldl (fun n k => min (n + s' k) 2147483648) n
  | [], n, _ => rfl
  | y :: l, n, h => by
    simp only [List.foldl_cons]
    rw [h y (by simp)]
    exact fold_congr l _ (fun x hx => h x (by simp [hx]))
theorem sizeF_dep : ∀ (d : Nat) (i : Itm), dep d i → ∀ f f', d ≤ f → d ≤ f' → sizeF f i = sizeF f' i
  | 0, i, h, _, _, _, _ => by cases h
  | d + 1, i, h, f, f', h1, h2 => by
    obtain ⟨f, rfl⟩ : ∃ g, f = g + 1 := ⟨f - 1, by omega⟩
    obtain ⟨f', rfl⟩ : ∃ g, f' = g + 1 := ⟨f' - 1, by omega⟩
    by_cases ht : i.typ = 1
    · rw [sizeF_k ht, sizeF_k ht]
      exact fold_congr _ _ (fun x hx => sizeF_dep d x (h x hx) f f' (by omega) (by omega))
    · cases hd : isD i.typ with
      | true => rw [sizeF_d ht hd, sizeF_d ht hd]
      | false => rw [sizeF_o ht hd, sizeF_o ht hd]
theorem tree6_dep (l : List R6) : ∀ (g a : Nat), dep (g + 1) (tree6 g l a)
  | 0, a => fun x hx => by cases hx
  | g + 1, a => by
    rw [tree6]
    split
    · exact fun x hx => by cases hx
    · cases hx : l[a]? with
      | none => exact fun x hx => by cases hx
      | some x =>
        intro y hy
        rw [odd6_kids] at hy
        have hy2 : y ∈ kids6 (tree6 g l) l a l.length := hy
        unfold kids6 at hy2
        obtain ⟨k, _, rfl⟩ := List.mem_map.1 hy2
        exact tree6_dep l g k
theorem tree6_fuel (l : List R6) : ∀ (g g' a : Nat), 30 ≤ a + g → 30 ≤ a + g' → tree6 g l a = tree6 g' l a := by
  intro g
  induction g with
  | zero =>
    intro g' a h1 h2
    cases g' with
    | zero => rfl
    | succ g' => rw [tree6, tree6, if_pos (by omega)]
  | succ g ih =>
    intro g' a h1 h2
    by_cases h3 : 30 ≤ a
    · rw [tree6, if_pos h3]
      cases g' with
      | zero => rfl
      | succ g' => rw [tree6, if_pos h3]
    · obtain ⟨g', rfl⟩ : ∃ q, g' = q + 1 := ⟨g' - 1, by omega⟩
      rw [tree6, tree6, if_neg h3, if_neg h3]
      have hk : kids6 (tree6 g l) l a l.length = kids6 (tree6 g' l) l a l.length := by
        unfold kids6
        refine List.map_congr_left fun k hk => ?_
        have h4 := (List.mem_filter.1 hk).2
        unfold sel6 at h4
        simp only [Bool.and_eq_true, decide_eq_true_eq] at h4
        exact ih g' k (by omega) (by omega)
      rw [hk]
/-- The sum of f over those below m that are chosen. -/
def smS (f : Nat → Nat) (c : Nat → Bool) : Nat → Nat
  | 0 => 0
  | m + 1 => smS f c m + if c m = true then f m else 0
theorem smS_kids (one : Nat → Itm) (l : List R6) (a : Nat) : ∀ m, wtAll (kids6 one l a m) = smS (fun k => (one k).wt) (sel6 l a) m
  | 0 => rfl
  | m + 1 => by
    rw [kids6_s, smS]
    split
    · rw [wtAll_app, smS_kids one l a m]; simp [wtAll]
    · rw [smS_kids one l a m]; omega
theorem smS_congr {f f' : Nat → Nat} {c : Nat → Bool} (h : ∀ k, c k = true → f k = f' k) : ∀ m, smS f c m = smS f' c m
  | 0 => rfl
  | m + 1 => by
    rw [smS, smS, smS_congr h m]
    split
    · rename_i hc; rw [h m hc]
    · rfl
theorem smS_none {f : Nat → Nat} {c : Nat → Bool} (h : ∀ k, c k = false) : ∀ m, smS f c m = 0
  | 0 => rfl
  | m + 1 => by rw [smS, smS_none h m, if_neg (by rw [h m]; decide)]
theorem smS_part {f : Nat → Nat} {c c1 c2 : Nat → Bool} {j : Nat} (h : ∀ k, k ≠ j → (if c k = true then f k else 0) + (if c1 k = true then f k else 0) = if c2 k = true then f k else 0) (h1 : c j = true) (h2 : c1 j = false) (h3 : c2 j = false) : ∀ m, smS f c m + smS f c1 m = smS f c2 m + if j < m then f j else 0
  | 0 => rfl
  | m + 1 => by
    have ih := smS_part h h1 h2 h3 m
    rw [smS, smS, smS]
    by_cases hj : m = j
    · subst hj
      rw [if_pos h1, if_neg (by rw [h2]; decide), if_neg (by rw [h3]; decide), if_pos (by omega)]
      rw [if_neg (by omega)] at ih
      omega
    · have h4 := h m hj
      generalize (if c m = true then f m else 0) = A at *
      generalize (if c1 m = true then f m else 0) = B at *
      generalize (if c2 m = true then f m else 0) = C at *
      by_cases h5 : j < m
      · rw [if_pos h5] at ih
        have e1 : (if j < m + 1 then f j else 0) = f j := if_pos (by omega)
        omega
      · rw [if_neg h5] at ih
        have e1 : (if j < m + 1 then f j else 0) = 0 := if_neg (by omega)
        omega
def cut6 (l : List R6) (j k : Nat) : Bool := decide (j ≤ k) && (decide (k < 30) && decide (pick (l.getD k default).par k < (j : Int)))
theorem dat6_len (k : Int) (x : R6) : (dat6 k x).length ≤ 30 := by
  unfold dat6
  split
  · have h1 := pk6_lt x.odd 2 (by omega)
    rw [List.length_take]
    omega
  · split
    · have := txt6_len _ (pk6_lt x.odd 4 (by omega)); omega
    · split
      · rw [List.length_take]; omega
      · simp
theorem odd6_wt (x : R6) (ks : List Itm) : (odd6 x (mid6 x ks)).wt ≤ 48 + wtAll ks := by
  have h1 := dat6_len (typ6 x ks.isEmpty) x
  have h2 : (x.dl.take 9).length ≤ 9 := by rw [List.length_take]; omega
  have h3 : (odd6 x (mid6 x ks)).data.length ≤ 30 := by
    unfold odd6
    split
    · exact h1
    · split
      · show (x.dl.take 9).length ≤ 30; omega
      · split
        · exact h1
        · split
          · exact h1
          · exact h1
  rw [wt_eq, odd6_kids]
  show 16 + up8 _ + wtAll ks ≤ _
  have h4 := up8_ge (odd6 x (mid6 x ks)).data.length
  unfold up8 at *
  omega
theorem tree6_one (l : List R6) (a : Nat) (ha : a < 30) : (tree6 30 l a).wt ≤ 48 + smS (fun k => (tree6 30 l k).wt) (sel6 l a) l.length := by
  rw [show (30 : Nat) = 29 + 1 from rfl, tree6, if_neg (by omega)]
  cases hx : l[a]? with
  | none =>
    show leaf6.wt ≤ _
    have : leaf6.wt = 16 := by decide +kernel
    omega
  | some x =>
    have h1 := odd6_wt x (kids6 (tree6 29 l) l a l.length)
    rw [smS_kids] at h1
    have h2 : smS (fun k => (tree6 29 l k).wt) (sel6 l a) l.length = smS (fun k => (tree6 (29 + 1) l k).wt) (sel6 l a) l.length := smS_congr (fun k hk => by
      unfold sel6 at hk
      simp only [Bool.and_eq_true, decide_eq_true_eq] at hk
      rw [tree6_fuel l 29 30 k (by omega) (by omega)]) _
    rw [h2] at h1
    exact h1
theorem cut6_le (l : List R6) : ∀ (d j : Nat), j + d = 30 → 1 ≤ j → smS (fun k => (tree6 30 l k).wt) (cut6 l j) l.length ≤ 48 * d
  | 0, j, h, _ => by
    rw [smS_none]
    · omega
    · intro k
      unfold cut6
      simp
      omega
  | d + 1, j, h, h1 => by
    have ih := cut6_le l d (j + 1) (by omega) (by omega)
    have h2 := smS_part (f := fun k => (tree6 30 l k).wt) (c := cut6 l j) (c1 := sel6 l j) (c2 := cut6 l (j + 1)) (j := j) (fun k hk => by
      have e : cut6 l (j + 1) k = (cut6 l j k || sel6 l j k) := by
        unfold cut6 sel6
        by_cases hl : j + 1 ≤ k
        · have hp := pick_lo (l.getD k default).par (k : Int) (by omega)
          generalize pick (l.getD k default).par (k : Int) = p at *
          rw [decide_eq_true hl, decide_eq_true (show j ≤ k by omega), decide_eq_true (show j < k by omega)]
          cases hq : decide (k < 30) with
          | false => rfl
          | true =>
            simp only [Bool.true_and]
            by_cases h3 : p < (j : Int)
            · rw [decide_eq_true h3, decide_eq_true (show p < ((j + 1 : Nat) : Int) by omega)]; rfl
            · rw [decide_eq_false h3]
              by_cases h4 : p = (j : Int)
              · rw [decide_eq_true (show p < ((j + 1 : Nat) : Int) by omega), h4]; simp
              · rw [decide_eq_false (show ¬ p < ((j + 1 : Nat) : Int) by omega), beq_eq_false_iff_ne.2 h4]; rfl
        · have h5 : ¬ j ≤ k := by omega
          have h6 : ¬ j < k := by omega
          rw [decide_eq_false hl, decide_eq_false h5, decide_eq_false h6]; rfl
      have e2 : (cut6 l j k && sel6 l j k) = false := by
        unfold cut6 sel6
        generalize pick (l.getD k default).par (k : Int) = p
        by_cases h3 : p < (j : Int)
        · rw [beq_eq_false_iff_ne.2 (show p ≠ (j : Int) by omega)]; simp
        · rw [decide_eq_false h3]; simp
      rw [e]
      cases hc1 : cut6 l j k <;> cases hc2 : sel6 l j k <;> simp_all) (by
      unfold cut6
      have hp := pick_hi (l.getD j default).par (j : Int) (by omega)
      generalize pick (l.getD j default).par (j : Int) = p at *
      rw [decide_eq_true (Nat.le_refl j), decide_eq_true (show j < 30 by omega), decide_eq_true hp]; rfl) (by unfold sel6; simp) (by unfold cut6; rw [decide_eq_false (show ¬ j + 1 ≤ j by omega)]; rfl) l.length
    have h3 := tree6_one l j (by omega)
    by_cases hj : j < l.length
    · rw [if_pos hj] at h2
      omega
    · rw [if_neg hj] at h2
      omega
theorem tree6_wt (l : List R6) : (tree6 30 l 0).wt ≤ 1440 := by
  have h1 := tree6_one l 0 (by omega)
  have h2 := cut6_le l 29 1 (by omega) (by omega)
  have h3 : smS (fun k => (tree6 30 l k).wt) (sel6 l 0) l.length = smS (fun k => (tree6 30 l k).wt) (cut6 l 1) l.length := by
    have e : sel6 l 0 = cut6 l 1 := by
      funext k
      unfold sel6 cut6
      by_cases h0 : 0 < k
      · have hp := pick_lo (l.getD k default).par (k : Int) (by omega)
        generalize pick (l.getD k default).par (k : Int) = p at *
        rw [decide_eq_true h0, decide_eq_true (show 1 ≤ k by omega)]
        by_cases h4 : p = 0
        · subst h4; simp
        · rw [decide_eq_false (show ¬ p < ((1 : Nat) : Int) by omega), beq_eq_false_iff_ne.2 (show p ≠ ((0 : Nat) : Int) by omega)]
      · rw [decide_eq_false h0, decide_eq_false (show ¬ 1 ≤ k by omega)]; rfl
    rw [e]
  omega
/-- A structure is as long as its head and its kids. -/
theorem size_str (t n : Int) (ks : List Itm) (hd : ∀ x ∈ ks, dep 31 x) (hw : wtAll ks ≤ 1000000) : sizeF 100 ⟨t, 1, n, [], ks⟩ = 8 + sumL (sizeF 100) ks := by
  have h1 := sumL_wt (s := sizeF 100) ks (fun x _ => sizeF_wt 100 x)
  rw [show (100 : Nat) = 99 + 1 from rfl, sizeF_k rfl]
  rw [fold_congr (s' := sizeF 100) ks 8 (fun x hx => sizeF_dep 31 x (hd x hx) 99 100 (by decide) (by decide))]
  exact fold_small _ _ _ (by omega)
end Go.Proofs.YtmpajhacigjloaaDoor
