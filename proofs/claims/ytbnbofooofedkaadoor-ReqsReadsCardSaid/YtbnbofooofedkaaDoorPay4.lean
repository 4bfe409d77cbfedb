/- Rows of items; the plain law of Parse. -/
import Derived.Test.YtbnbofooofedkaaDoorPay3
namespace Go.Proofs.YtbnbofooofedkaaDoor
open Go.RowKit
set_option linter.unusedVariables false
set_option linter.unusedSimpArgs false
set_option maxRecDepth 100000
set_option maxHeartbeats 1600000
/-- An item stored over the last of a row's own. -/
theorem wpList_store_item {P : Program} {w : World} {ops : Array Oper} {rest : List Oper} {op : Oper} {a : Act} {Q : Exit → Act → World → Prop} (hgd : op.guard = none) (ty : TypeId) (x y : Operand) (ho : op.op = .store ty x y)
  (g o : Nat) (hx : a.eval x = .pointer (some ⟨g, o, none⟩)) (v : ItV) (hy : a.eval y = .agg v.arr) {base n m c : Nat} {T : TypeId} {xs zs : List Value} (hown : w.ownsRow base T 5 (.slice (some ⟨g, 0, none⟩) m c) m (xs ++ zs)) (hm : m = n + 1) (hx5 : xs.length = n * 5) (ho5 : o = n * 5)
  (hi : (P.info? ty).map (·.size) = some 5) (h1 : v.arr.all (·.oneCell') = true)
  (h : ∀ w', w'.ownsRow base T 5 (.slice (some ⟨g, 0, none⟩) m c) m (xs ++ v.cells) → Chg [g] w w' → w'.heap.size = w.heap.size → wpList P ops Q rest (a.put op.dst undef) w') : wpList P ops Q (op :: rest) a w := by
 subst ho5; subst hm
 have hzs : zs.length = 5 := by have := hown.1; simp at this; omega
 rcases hown.2 with ⟨hv, h0⟩ | ⟨g', cap, cur, hv, hg, hh, hnc, hcm, hcs, ht⟩
 ·cases hv
 ·simp only [Value.slice.injEq, Option.some.injEq, Addr.mk.injEq] at hv
  obtain ⟨⟨rfl, _⟩, _, rfl⟩ := hv
  have hroom : n * 5 + 5 ≤ cur.size := by rw [hcs]; have := Nat.mul_le_mul_right 5 hnc; omega
  have hvl : v.arr.toList.length = 5 := rfl
  refine wpList_store_mid hgd ty x y ho g (n * 5) v.arr hx hy ?_ hi h1 (h _ ?_ ?_ ?_)
  ·intro j hj
   have hj5 : j < 5 := hj
   refine ⟨?_, frozen_of_block hh⟩
   rw [cell_of_block hh (Array.getElem?_eq_getElem (by omega))]; rfl
  ·refine ⟨by simp [ItV.cells, hx5, hvl]; omega, .inr ⟨g, c, setSeg cur (n * 5) v.arr.toList, rfl, hg, setCells_block _ _ _ _ hh, hnc, hcm, by rw [setSeg_size]; exact hcs, ?_⟩⟩
   refine List.ext_getElem? fun k => ?_
   have hcur : ∀ k, k < n * 5 → cur[k]? = xs[k]? := fun k hk => by
    have := congrArg (fun l => l[k]?) ht
    simp only [List.getElem?_take, if_pos (show k < (n + 1) * 5 by omega), List.getElem?_append_left (show k < xs.length by omega)] at this
    simpa using this
   rw [List.getElem?_take]
   by_cases hk : k < (n + 1) * 5
   ·rw [if_pos hk, Array.getElem?_toList, setSeg_get _ _ _ _ (by rw [hvl]; exact hroom), hvl]
    by_cases hkn : k < n * 5
    ·rw [if_neg (by omega), hcur k hkn, List.getElem?_append_left (by omega)]
    ·rw [if_pos (by omega), List.getElem?_append_right (by omega), hx5]; rfl
   ·rw [if_neg hk, List.getElem?_eq_none]
    simp [ItV.cells, hx5]
    have : v.arr.size = 5 := rfl
    omega
  ·exact setCells_chg _ _ _ (Chg.refl _ _) (.inl (by simp))
  ·have : ∀ (vs : List Value) (o : Nat) (w : World), (w.setCells g o vs).heap.size = w.heap.size := by
    intro vs
    induction vs with
    | nil => intro o w; rfl
    | cons v r ih => intro o w; rw [World.setCells, ih]; simp [World.setCell]
   exact this _ _ _
/-- the same, one operation -/
theorem wp_store_item {P : Program} {w : World} {op : Oper} {a : Act} {K : Act → World → Prop} {Q : Exit → Act → World → Prop} (ty : TypeId) (x y : Operand) (ho : op.op = .store ty x y)
  (g o : Nat) (hx : a.eval x = .pointer (some ⟨g, o, none⟩)) (v : ItV) (hy : a.eval y = .agg v.arr) {base n m c : Nat} {T : TypeId} {xs zs : List Value} (hown : w.ownsRow base T 5 (.slice (some ⟨g, 0, none⟩) m c) m (xs ++ zs)) (hm : m = n + 1) (hx5 : xs.length = n * 5) (ho5 : o = n * 5)
  (hi : (P.info? ty).map (·.size) = some 5) (h1 : v.arr.all (·.oneCell') = true)
  (h : ∀ w', w'.ownsRow base T 5 (.slice (some ⟨g, 0, none⟩) m c) m (xs ++ v.cells) → Chg [g] w w' → w'.heap.size = w.heap.size → K (a.put op.dst undef) w') : op.wp P a w K Q := by
 subst ho5; subst hm
 have hzs : zs.length = 5 := by have := hown.1; simp at this; omega
 rcases hown.2 with ⟨hv, h0⟩ | ⟨g', cap, cur, hv, hg, hh, hnc, hcm, hcs, ht⟩
 ·cases hv
 ·simp only [Value.slice.injEq, Option.some.injEq, Addr.mk.injEq] at hv
  obtain ⟨⟨rfl, _⟩, _, rfl⟩ := hv
  have hroom : n * 5 + 5 ≤ cur.size := by rw [hcs]; have := Nat.mul_le_mul_right 5 hnc; omega
  have hvl : v.arr.toList.length = 5 := rfl
  refine wp_store_mid ty x y ho g (n * 5) v.arr hx hy ?_ hi h1 (h _ ?_ ?_ ?_)
  ·intro j hj
   have hj5 : j < 5 := hj
   refine ⟨?_, frozen_of_block hh⟩
   rw [cell_of_block hh (Array.getElem?_eq_getElem (by omega))]; rfl
  ·refine ⟨by simp [ItV.cells, hx5, hvl]; omega, .inr ⟨g, c, setSeg cur (n * 5) v.arr.toList, rfl, hg, setCells_block _ _ _ _ hh, hnc, hcm, by rw [setSeg_size]; exact hcs, ?_⟩⟩
   refine List.ext_getElem? fun k => ?_
   have hcur : ∀ k, k < n * 5 → cur[k]? = xs[k]? := fun k hk => by
    have := congrArg (fun l => l[k]?) ht
    simp only [List.getElem?_take, if_pos (show k < (n + 1) * 5 by omega), List.getElem?_append_left (show k < xs.length by omega)] at this
    simpa using this
   rw [List.getElem?_take]
   by_cases hk : k < (n + 1) * 5
   ·rw [if_pos hk, Array.getElem?_toList, setSeg_get _ _ _ _ (by rw [hvl]; exact hroom), hvl]
    by_cases hkn : k < n * 5
    ·rw [if_neg (by omega), hcur k hkn, List.getElem?_append_left (by omega)]
    ·rw [if_pos (by omega), List.getElem?_append_right (by omega), hx5]; rfl
   ·rw [if_neg hk, List.getElem?_eq_none]
    simp [ItV.cells, hx5]
    have : v.arr.size = 5 := rfl
    omega
  ·exact setCells_chg _ _ _ (Chg.refl _ _) (.inl (by simp))
  ·have : ∀ (vs : List Value) (o : Nat) (w : World), (w.setCells g o vs).heap.size = w.heap.size := by
    intro vs
    induction vs with
    | nil => intro o w; rfl
    | cons v r ih => intro o w; rw [World.setCells, ih]; simp [World.setCell]
   exact this _ _ _
/-- Rows of items: a slice of slices, all the call's own. -/
structure Rows2 (T1 T : TypeId) (w : World) (base low : Nat) (s : Sl) (sls : List Sl) (rows : List (List ItV)) : Prop where
 own : w.ownsRow base T1 1 (.slice s.a s.n s.c) s.n (sls.map Sl.v)
 len : rows.length = sls.length
 each : ∀ (k : Nat) (sl : Sl) (l : List ItV), sls[k]? = some sl → rows[k]? = some l → OwnIt T w base low sl l
 apart : ∀ (i j : Nat) (si sj : Sl) (k : Nat), i ≠ j → sls[i]? = some si → sls[j]? = some sj → si.v.ownBlock = some k → sj.v.ownBlock ≠ some k
 cross : ∀ (si : Sl) (l : List ItV) (x : ItV) (k : Nat), si ∈ sls → l ∈ rows → x ∈ l → k ∈ x.foot → si.v.ownBlock ≠ some k
 outer : ∀ (l : List ItV) (x : ItV) (k : Nat), l ∈ rows → x ∈ l → k ∈ x.foot → s.v.ownBlock ≠ some k
section
variable {T1 T : TypeId} {w w' : World} {base low : Nat} {s : Sl} {sls : List Sl} {rows : List (List ItV)}
theorem Rows2.chg (h : Rows2 T1 T w base low s sls rows) {G : List Nat} (hc : Chg G w w') (h1 : ∀ k, s.v.ownBlock = some k → k ∉ G) (h2 : ∀ si ∈ sls, ∀ k, si.v.ownBlock = some k → k ∉ G) (h3 : ∀ l ∈ rows, ∀ x ∈ l, Disj x.foot G) : Rows2 T1 T w' base low s sls rows :=
 ⟨hc.owns h.own h1, h.len, fun k sl l hs hl => (h.each k sl l hs hl).chg hc (h2 sl (List.mem_of_getElem? hs)) (h3 l (List.mem_of_getElem? hl)), h.apart, h.cross, h.outer⟩
theorem Rows2.below (h : Rows2 T1 T w base low s sls rows) (hb : Below w.heap.size w w') : Rows2 T1 T w' base low s sls rows :=
 h.chg (Chg.of_below hb []) (fun k _ hm => by cases hm) (fun _ _ k _ hm => by cases hm) (fun _ _ x _ k _ hm => by cases hm)
theorem Rows2.slen (h : Rows2 T1 T w base low s sls rows) : sls.length = s.n := by have := h.own.1; simpa using this
theorem Rows2.start (hT : T1 ≠ T) {a : Option Addr} {n c : Nat} (ho : w.ownsRow base T1 1 (.slice a n c) n (List.replicate n (.slice none 0 0))) : Rows2 T1 T w base low ⟨a, n, c⟩ (List.replicate n {}) (List.replicate n []) := by
 refine ⟨by simpa using ho, by simp, fun k sl l hs hl => ?_, fun i j si sj k _ hi _ hb => ?_, fun si l x k _ hl hx => ?_, fun l x k hl hx => ?_⟩
 ·obtain rfl : sl = {} := List.eq_of_mem_replicate (List.mem_of_getElem? hs)
  obtain rfl : l = [] := List.eq_of_mem_replicate (List.mem_of_getElem? hl)
  exact OwnIt.nil _ _ _ _
 ·obtain rfl : si = {} := List.eq_of_mem_replicate (List.mem_of_getElem? hi)
  cases hb
 ·obtain rfl : l = [] := List.eq_of_mem_replicate hl
  cases hx
 ·obtain rfl : l = [] := List.eq_of_mem_replicate hl
  cases hx
/-- One row has grown by an item; its slice is laid back. -/
theorem Rows2.push (h : Rows2 T1 T w base low s sls rows) (hT : T1 ≠ T) {g i : Nat} (hg : s.a = some ⟨g, 0, none⟩) {sl sl' : Sl} {l : List ItV} (hi : sls[i]? = some sl) (hl : rows[i]? = some l)
  (y : ItV) (hy : y.ok w) (hylow : ∀ k ∈ y.foot, low ≤ k) (hyn : ∀ k ∈ y.foot, (∀ si ∈ sls, si.v.ownBlock ≠ some k) ∧ s.v.ownBlock ≠ some k)
  (hc : Chg (g :: sl.v.ownBlock.toList) w w') (hrow : w'.ownsRow base T 5 (.slice sl'.a sl'.n sl'.c) sl'.n (itmCells (l ++ [y]))) (hout : w'.ownsRow base T1 1 (.slice s.a s.n s.c) s.n ((sls.set i sl').map Sl.v))
  (hf : sl'.v.ownBlock = sl.v.ownBlock ∨ ∀ k, sl'.v.ownBlock = some k → w.heap.size ≤ k) : Rows2 T1 T w' base low s (sls.set i sl') (rows.set i (l ++ [y])) := by
 obtain ⟨sa, sn, sc⟩ := s
 simp only at hg; subst hg
 have hin : i < sls.length := (List.getElem?_eq_some_iff.1 hi).1
 have hmem : sl ∈ sls := List.mem_of_getElem? hi
 have hlmem : l ∈ rows := List.mem_of_getElem? hl
 have hir : i < rows.length := (List.getElem?_eq_some_iff.1 hl).1
 have hgs : g < w.heap.size := (h.own.lt g rfl).2
 have hrow' : ∀ j sj, sls[j]? = some sj → ∃ lj, rows[j]? = some lj := fun j sj hj => ⟨rows[j]'(by have := (List.getElem?_eq_some_iff.1 hj).1; have := h.len; omega), List.getElem?_eq_getElem _⟩
 have hgr : ∀ si ∈ sls, si.v.ownBlock ≠ some g := fun si hsi => by
  obtain ⟨j, hj⟩ := List.getElem?_of_mem hsi
  obtain ⟨lj, hlj⟩ := hrow' j si hj
  exact typ_ne h.own (h.each j si lj hj hlj).own hT rfl
 have hin2 : ∀ k, k ∈ sl.v.ownBlock.toList → sl.v.ownBlock = some k := fun k hm => by
  cases hv : sl.v.ownBlock with
  | none => rw [hv] at hm; cases hm
  | some y => rw [hv] at hm; simp at hm; rw [hm]
 have hlt2 : ∀ (j : Nat) (sj : Sl) (k : Nat), sls[j]? = some sj → sj.v.ownBlock = some k → k < w.heap.size := fun j sj k hj hk => by
  obtain ⟨lj, hlj⟩ := hrow' j sj hj
  exact ((h.each j sj lj hj hlj).own.lt k hk).2
 have hfoot : ∀ l2 ∈ rows.set i (l ++ [y]), ∀ x ∈ l2, x.ok w ∧ (∀ k ∈ x.foot, low ≤ k) ∧ ∀ k ∈ x.foot, (∀ si ∈ sls, si.v.ownBlock ≠ some k) ∧ g ≠ k ∧ k < w.heap.size := by
  have hold : ∀ l2 ∈ rows, ∀ x ∈ l2, x.ok w ∧ (∀ k ∈ x.foot, low ≤ k) ∧ ∀ k ∈ x.foot, (∀ si ∈ sls, si.v.ownBlock ≠ some k) ∧ g ≠ k ∧ k < w.heap.size := by
   intro l2 h' x hx
   obtain ⟨j, hj⟩ := List.getElem?_of_mem h'
   obtain ⟨sj, hsj⟩ : ∃ sj, sls[j]? = some sj := ⟨sls[j]'(by have := (List.getElem?_eq_some_iff.1 hj).1; have := h.len; omega), List.getElem?_eq_getElem _⟩
   have hE := h.each j sj l2 hsj hj
   exact ⟨hE.ok x hx, hE.low x hx, fun k hk => ⟨fun si hsi => h.cross si l2 x k hsi h' hx hk, fun he => h.outer l2 x k h' hx hk (by rw [← he]; rfl), (hE.ok x hx).lt k hk⟩⟩
  intro l2 hl2 x hx
  rcases List.mem_or_eq_of_mem_set hl2 with h' | h'
  ·exact hold l2 h' x hx
  ·subst h'
   rcases List.mem_append.1 hx with h2 | h2
   ·exact hold l hlmem x h2
   ·rw [List.mem_singleton.1 h2]
    exact ⟨hy, hylow, fun k hk => ⟨(hyn k hk).1, fun he => (hyn k hk).2 (by rw [← he]; rfl), hy.lt k hk⟩⟩
 have hdisj : ∀ l2 ∈ rows.set i (l ++ [y]), ∀ x ∈ l2, Disj x.foot (g :: sl.v.ownBlock.toList) := fun l2 hl2 x hx k hk hm => by
  have := (hfoot l2 hl2 x hx).2.2 k hk
  rcases List.mem_cons.1 hm with h' | h'
  ·exact this.2.1 h'.symm
  ·exact this.1 sl hmem (hin2 k h')
 have hsl' : ∀ k, sl'.v.ownBlock = some k → (sl.v.ownBlock = some k) ∨ w.heap.size ≤ k := fun k hk => by
  rcases hf with h' | h'
  ·left; rw [← h']; exact hk
  ·right; exact h' k hk
 refine ⟨hout, by simp [h.len], ?_, ?_, ?_, ?_⟩
 ·intro k s2 l2 hs2 hl2
  by_cases hki : k = i
  ·subst hki
   rw [List.getElem?_set_self hin] at hs2
   rw [List.getElem?_set_self hir] at hl2
   cases hs2; cases hl2
   have hm := List.mem_set hir (l ++ [y])
   refine ⟨hrow, fun x hx => ItV.ok.keep hc (hfoot _ hm x hx).1 (hdisj _ hm x hx), fun x hx q hq he => ?_, fun x hx => (hfoot _ hm x hx).2.1⟩
   have h3 := (hfoot _ hm x hx).2.2 q hq
   rcases hsl' q he with h' | h'
   ·exact h3.1 sl hmem h'
   ·omega
  ·rw [List.getElem?_set_ne (by omega)] at hs2 hl2
   refine (h.each k s2 l2 hs2 hl2).chg hc (fun q hq hm => ?_) (fun x hx => ?_)
   ·rcases List.mem_cons.1 hm with h' | h'
    ·exact hgr s2 (List.mem_of_getElem? hs2) (by rw [hq, h'])
    ·exact h.apart i k sl s2 q (by omega) hi hs2 (hin2 q h') hq
   ·have hm2 : l2 ∈ rows.set i (l ++ [y]) := List.mem_of_getElem? (i := k) (by rw [List.getElem?_set_ne (by omega)]; exact hl2)
    exact hdisj l2 hm2 x hx
 ·intro p q sp sq k hpq hp hq hk
  by_cases hpi : p = i
  ·subst hpi
   rw [List.getElem?_set_self hin] at hp
   cases hp
   rw [List.getElem?_set_ne (by omega)] at hq
   rcases hsl' k hk with h' | h'
   ·exact h.apart p q sl sq k hpq hi hq h'
   ·intro he; have := hlt2 q sq k hq he; omega
  ·rw [List.getElem?_set_ne (by omega)] at hp
   by_cases hqi : q = i
   ·subst hqi
    rw [List.getElem?_set_self hin] at hq
    cases hq
    intro he
    rcases hsl' k he with h' | h'
    ·exact h.apart p q sp sl k hpq hp hi hk h'
    ·have := hlt2 p sp k hp hk; omega
   ·rw [List.getElem?_set_ne (by omega)] at hq
    exact h.apart p q sp sq k hpq hp hq hk
 ·intro si l2 x k hsi hl2 hx hk
  have hff := (hfoot l2 hl2 x hx).2.2 k hk
  rcases List.mem_or_eq_of_mem_set hsi with h' | h'
  ·exact hff.1 si h'
  ·subst h'
   intro he
   rcases hsl' k he with h2 | h2
   ·exact hff.1 sl hmem h2
   ·omega
 ·intro l2 x k hl2 hx hk he
  have he2 : some g = some k := he
  cases he2
  exact ((hfoot l2 hl2 x hx).2.2 _ hk).2.1 rfl
end
end Go.Proofs.YtbnbofooofedkaaDoor
