/- An item stored within a row. locksmithhand: the tables, Name, Op. An item in the making: it stands in a block of the call's own, its kids in a row of the call's own. locksmithhand: Attr, lay, set. locksmithhand: lay, set. -/
import Derived.Test.YtbnbofooofedkaaDoorItem4
import Derived.Test.YtbnbofooofedkaaDoorHVal
import Derived.Lib.LaidU8
import Derived.Test.YtbnbofooofedkaaDoorOwnObj
import Derived.Test.YtbnbofooofedkaaDoorRegionB
namespace Go.Proofs.YtbnbofooofedkaaDoor
section
open Go.RowKit
set_option linter.unusedVariables false
set_option linter.unusedSimpArgs false
set_option maxRecDepth 100000
set_option maxHeartbeats 1600000
theorem itm_set (l : List ItV) (i : Nat) (y : ItV) (hi : i < l.length) (k : Nat) : (itmCells (l.set i y))[k]? = if i * 5 ≤ k ∧ k < i * 5 + 5 then y.arr.toList[k - i * 5]? else (itmCells l)[k]? := by
 obtain ⟨q, r, hr, rfl⟩ : ∃ q r, r < 5 ∧ k = q * 5 + r := ⟨k / 5, k % 5, by omega, by omega⟩
 rcases Nat.lt_or_ge q l.length with hq | hq
 ·by_cases hqi : q = i
  ·subst hqi
   rw [if_pos (by omega), itm_get _ q r y (by rw [List.getElem?_set_self hi]) hr, show q * 5 + r - q * 5 = r by omega]; rfl
  ·rw [if_neg (by omega), itm_get _ q r l[q] (by rw [List.getElem?_set_ne (by omega), List.getElem?_eq_getElem hq]) hr, itm_get _ q r l[q] (List.getElem?_eq_getElem hq) hr]
 ·rw [if_neg (by omega), List.getElem?_eq_none (by rw [itm_len, List.length_set]; omega), List.getElem?_eq_none (by rw [itm_len]; omega)]
theorem wpList_store_at {P : Program} {w : World} {ops : Array Oper} {rest : List Oper} {op : Oper} {a : Act} {Q : Exit → Act → World → Prop} (hgd : op.guard = none) (ty : TypeId) (x y : Operand) (ho : op.op = .store ty x y)
  (g o : Nat) (hx : a.eval x = .pointer (some ⟨g, o, none⟩)) (v : ItV) (hy : a.eval y = .agg v.arr) {base n c : Nat} {T : TypeId} {l : List ItV} (hown : w.ownsRow base T 5 (.slice (some ⟨g, 0, none⟩) n c) n (itmCells l)) (k : Nat) (hk : k < n) (ho5 : o = k * 5)
  (hi : (P.info? ty).map (·.size) = some 5) (h1 : v.arr.all (·.oneCell') = true)
  (h : ∀ w', w'.ownsRow base T 5 (.slice (some ⟨g, 0, none⟩) n c) n (itmCells (l.set k v)) → Chg [g] w w' → w'.heap.size = w.heap.size → wpList P ops Q rest (a.put op.dst undef) w') : wpList P ops Q (op :: rest) a w := by
 subst ho5
 have hll : l.length = n := by have := hown.1; rw [itm_len] at this; omega
 rcases hown.2 with ⟨hv, h0⟩ | ⟨g', cap, cur, hv, hg, hh, hnc, hcm, hcs, ht⟩
 ·cases hv
 ·simp only [Value.slice.injEq, Option.some.injEq, Addr.mk.injEq] at hv
  obtain ⟨⟨rfl, _⟩, _, rfl⟩ := hv
  have hroom : k * 5 + 5 ≤ cur.size := by rw [hcs]; have := Nat.mul_le_mul_right 5 hnc; omega
  have hvl : v.arr.toList.length = 5 := rfl
  refine wpList_store_mid hgd ty x y ho g (k * 5) v.arr hx hy ?_ hi h1 (h _ ?_ ?_ ?_)
  ·intro j hj
   have hj5 : j < 5 := hj
   refine ⟨?_, frozen_of_block hh⟩
   rw [cell_of_block hh (Array.getElem?_eq_getElem (by omega))]; rfl
  ·refine ⟨by rw [itm_len, List.length_set, hll], .inr ⟨g, c, setSeg cur (k * 5) v.arr.toList, rfl, hg, setCells_block _ _ _ _ hh, hnc, hcm, by rw [setSeg_size]; exact hcs, ?_⟩⟩
   refine List.ext_getElem? fun q => ?_
   rw [itm_set l k v (by omega) q, List.getElem?_take]
   by_cases hq : q < n * 5
   ·rw [if_pos hq, Array.getElem?_toList, setSeg_get _ _ _ _ (by rw [hvl]; exact hroom), hvl]
    by_cases hqn : k * 5 ≤ q ∧ q < k * 5 + 5
    ·rw [if_pos hqn, if_pos hqn]
    ·rw [if_neg hqn, if_neg hqn]
     have := congrArg (fun l => l[q]?) ht
     simp only [List.getElem?_take, if_pos hq] at this
     simpa using this
   ·rw [if_neg hq, if_neg (by omega), List.getElem?_eq_none (by rw [itm_len]; omega)]
  ·exact setCells_chg _ _ _ (Chg.refl _ _) (.inl (by simp))
  ·have : ∀ (vs : List Value) (o : Nat) (w : World), (w.setCells g o vs).heap.size = w.heap.size := by
    intro vs
    induction vs with
    | nil => intro o w; rfl
    | cons v r ih => intro o w; rw [World.setCells, ih]; simp [World.setCell]
   exact this _ _ _
end
section
open Go.RowKit
set_option linter.unusedVariables false
set_option linter.unusedSimpArgs false
set_option maxRecDepth 100000
set_option maxHeartbeats 4000000
theorem wrap_tmod {n m : Int} (h0 : 1 ≤ m) (h1 : m ≤ 4611686018427387904) : IntKind.i64.wrap (n.tmod m) = n.tmod m := by
 obtain ⟨_, _, h4, h5⟩ := pick_of n m h0
 exact IntWalk.i64_in _ (by omega)
theorem tmod_lo (n m : Int) (h0 : 1 ≤ m) : -m < n.tmod m ∧ n.tmod m < m := by
 obtain ⟨_, _, h4, h5⟩ := pick_of n m h0
 exact ⟨h4, h5⟩
theorem wrap_tdiv {n m : Int} (h0 : 1 ≤ m) (hn : -9223372036854775808 ≤ n ∧ n ≤ 9223372036854775807) : IntKind.i64.wrap (n.tdiv m) = n.tdiv m := by
 have h1 : (n.tdiv m).natAbs ≤ n.natAbs := by rw [Int.natAbs_tdiv]; exact Nat.div_le_self _ _
 by_cases h : n = -9223372036854775808
 ·subst h
  have h2 := Int.tdiv_nonneg (a := 9223372036854775808) (b := m) (by omega) (by omega)
  have h3 : (-9223372036854775808 : Int).tdiv m = -((9223372036854775808 : Int).tdiv m) := Int.neg_tdiv _ _
  exact IntWalk.i64_in _ (by omega)
 ·exact IntWalk.i64_in _ (by omega)
def nmL : List ByteArray := [⟨#[85, 110, 105, 113, 117, 101, 32, 73, 100, 101, 110, 116, 105, 102, 105, 101, 114]⟩, ⟨#[78, 97, 109, 101]⟩, ⟨#[79, 98, 106, 101, 99, 116, 32, 84, 121, 112, 101]⟩, ⟨#[67, 114, 121, 112, 116, 111, 103, 114, 97, 112, 104, 105, 99, 32, 65, 108, 103, 111, 114, 105, 116, 104, 109]⟩, ⟨#[67, 114, 121, 112, 116, 111, 103, 114, 97, 112, 104, 105, 99, 32, 76, 101, 110, 103, 116, 104]⟩, ⟨#[67, 114, 121, 112, 116, 111, 103, 114, 97, 112, 104, 105, 99, 32, 85, 115, 97, 103, 101, 32, 77, 97, 115, 107]⟩, ⟨#[83, 116, 97, 116, 101]⟩, ⟨#[73, 110, 105, 116, 105, 97, 108, 32, 68, 97, 116, 101]⟩, ⟨#[65, 99, 116, 105, 118, 97, 116, 105, 111, 110, 32, 68, 97, 116, 101]⟩, ⟨#[80, 114, 111, 99, 101, 115, 115, 32, 83, 116, 97, 114, 116, 32, 68, 97, 116, 101]⟩, ⟨#[80, 114, 111, 116, 101, 99, 116, 32, 83, 116, 111, 112, 32, 68, 97, 116, 101]⟩, ⟨#[68, 101, 97, 99, 116, 105, 118, 97, 116, 105, 111, 110, 32, 68, 97, 116, 101]⟩, ⟨#[68, 101, 115, 116, 114, 111, 121, 32, 68, 97, 116, 101]⟩, ⟨#[67, 111, 109, 112, 114, 111, 109, 105, 115, 101, 32, 79, 99, 99, 117, 114, 114, 101, 110, 99, 101, 32, 68, 97, 116, 101]⟩, ⟨#[67, 111, 109, 112, 114, 111, 109, 105, 115, 101, 32, 68, 97, 116, 101]⟩, ⟨#[65, 114, 99, 104, 105, 118, 101, 32, 68, 97, 116, 101]⟩, ⟨#[76, 97, 115, 116, 32, 67, 104, 97, 110, 103, 101, 32, 68, 97, 116, 101]⟩, ⟨#[82, 101, 118, 111, 99, 97, 116, 105, 111, 110, 32, 82, 101, 97, 115, 111, 110]⟩, ⟨#[76, 105, 110, 107]⟩, ⟨#[85, 115, 97, 103, 101, 32, 76, 105, 109, 105, 116, 115]⟩, ⟨#[120, 45, 97]⟩, ⟨#[120, 45, 98]⟩, ⟨#[120, 45]⟩, ⟨#[121]⟩]
/-- The table of names. -/
def NamesTab (w : World) : Prop := ∀ k, k < 24 → w.cell? ⟨1, k, none⟩ = some (.string (nmL.getD k ⟨#[]⟩))
theorem NamesTab.below {w w' : World} (h : NamesTab w) (hb : Below w.heap.size w w') : NamesTab w' := fun k hk => cell_later hb (h k hk)
theorem cells1S : Tryd.prog.cellsOf 9 = 1 := by kernel_rfl
theorem namesLaid : (Rows.laid_locksmith_locksmithhand_names : DataW Unit) = .agg (nmL.map fun s => .lit (.string s.data.toList)) := by kernel_rfl
theorem namesTab {W : World} (h : Lib.VarReads Tryd.prog W "locksmith/locksmithhand.names" Rows.laid_locksmith_locksmithhand_names) : NamesTab W := by
 obtain ⟨g, t, cs, fuel, p, hg, hty, hvar, hd⟩ := h
 obtain rfl := Option.some.inj ((show Tryd.prog.globalNamed "locksmith/locksmithhand.names" = some 1 by kernel_rfl).symm.trans hg)
 obtain rfl := Option.some.inj ((show (Tryd.prog.globals[1]?).map (·.type) = some 101 by kernel_rfl).symm.trans hty)
 rw [namesLaid] at hd
 intro k hk
 obtain ⟨fuel', d, q, hdi, he⟩ := Lib.array_elem Tryd.underlying101 hd k hk
 rw [cells1S, Nat.mul_one] at he
 obtain ⟨s, hcs, hx, _⟩ := DataW.trod_string Tryd.underlying9 he
 have hdd : d = .lit (.string s.data.toList) := congrArg Prod.fst hx
 rw [hdd, List.getElem?_map] at hdi
 have hc : cs.toList[k]? = some (.string s) := by
  have := congrArg (·[0]?) hcs
  simpa [List.getElem?_take, List.getElem?_drop] using this
 obtain ⟨nmk, hnk⟩ : ∃ y, nmL[k]? = some y := ⟨_, List.getElem?_eq_getElem (show k < nmL.length from hk)⟩
 rw [hnk] at hdi
 simp only [Option.map_some, Option.some.injEq, DataW.lit.injEq, Lit.string.injEq] at hdi
 have hs : s = nmk := by
  obtain ⟨⟨s⟩⟩ := s
  obtain ⟨⟨y⟩⟩ := nmk
  simp at hdi
  rw [hdi]
 rw [World.var?_cell hg hvar k, ← Array.getElem?_toList, hc, hs, List.getD_eq_getElem?_getD, hnk]
 rfl
theorem name_any (n : Int) (w : World) (h : NamesTab w) : Calls Tryd.prog 57 #[.int .i64 n] w fun e w' => e = .returned (.string (nmL.getD (pickN n 24) ⟨#[]⟩)) ∧ w = w' := by
 have hlt := pickN_lt n 24 (by omega)
 have hpe : pick n 24 = (pickN n 24 : Int) := pickN_eq n 24 (by omega)
 have hc := h (pickN n 24) hlt
 have HP := hid hpe
 clear h hpe
 generalize nmL.getD (pickN n 24) ⟨#[]⟩ = S at *
 generalize pickN n 24 = k at *
 go_enter Tryd.func57, Tryd.ntmps57
 go_wp2_with fail
 refine (pick_any n 24 _ (by omega) (by omega)).mono ?_
 rintro e w1 ⟨rfl, rfl⟩
 rw [HP.out]
 have hb : (k : Int) < 24 := by omega
 go_wp2_with fail
 go_ret
 exact ⟨rfl, rfl⟩
theorem nmL_size (k : Nat) : (nmL.getD k ⟨#[]⟩).size ≤ 40 := by
 match k with
 | 0 => decide
 | 1 => decide
 | 2 => decide
 | 3 => decide
 | 4 => decide
 | 5 => decide
 | 6 => decide
 | 7 => decide
 | 8 => decide
 | 9 => decide
 | 10 => decide
 | 11 => decide
 | 12 => decide
 | 13 => decide
 | 14 => decide
 | 15 => decide
 | 16 => decide
 | 17 => decide
 | 18 => decide
 | 19 => decide
 | 20 => decide
 | 21 => decide
 | 22 => decide
 | 23 => decide
 | k + 24 => rw [List.getD_eq_getElem?_getD, List.getElem?_eq_none (by simp [nmL])]; decide
def kindsL : List Int := [1, 1, 1, 2, 3, 3, 4, 8, 9, 10, 11, 12, 13, 14, 15, 17, 18, 18, 19, 20, 21, 22, 24, 30, 31, 32, 35, 36]
/-- The table of operations. -/
def KindsTab (w : World) : Prop := ∀ k, k < 28 → w.cell? ⟨0, k, none⟩ = some (.int .i64 (kindsL.getD k 0))
theorem KindsTab.below {w w' : World} (h : KindsTab w) (hb : Below w.heap.size w w') : KindsTab w' := fun k hk => cell_later hb (h k hk)
theorem cells1I : Tryd.prog.cellsOf 3 = 1 := by kernel_rfl
theorem kindsLaid : (Rows.laid_locksmith_locksmithhand_kinds : DataW Unit) = .agg (kindsL.map fun s => .lit (.int .i64 s)) := by kernel_rfl
theorem kindsTab {W : World} (h : Lib.VarReads Tryd.prog W "locksmith/locksmithhand.kinds" Rows.laid_locksmith_locksmithhand_kinds) : KindsTab W := by
 obtain ⟨g, t, cs, fuel, p, hg, hty, hvar, hd⟩ := h
 obtain rfl := Option.some.inj ((show Tryd.prog.globalNamed "locksmith/locksmithhand.kinds" = some 0 by kernel_rfl).symm.trans hg)
 obtain rfl := Option.some.inj ((show (Tryd.prog.globals[0]?).map (·.type) = some 80 by kernel_rfl).symm.trans hty)
 rw [kindsLaid] at hd
 intro k hk
 obtain ⟨fuel', d, q, hdi, he⟩ := Lib.array_elem Tryd.underlying80 hd k hk
 rw [cells1I, Nat.mul_one] at he
 obtain ⟨z, hcs, hx, _⟩ := DataW.trod_int Tryd.underlying3 he
 have hdd : d = .lit (.int .i64 z) := congrArg Prod.fst hx
 rw [hdd, List.getElem?_map] at hdi
 have hc : cs.toList[k]? = some (.int .i64 z) := by
  have := congrArg (·[0]?) hcs
  simpa [List.getElem?_take, List.getElem?_drop] using this
 obtain ⟨nmk, hnk⟩ : ∃ y, kindsL[k]? = some y := ⟨_, List.getElem?_eq_getElem (show k < kindsL.length from hk)⟩
 rw [hnk] at hdi
 simp only [Option.map_some, Option.some.injEq, DataW.lit.injEq, Lit.int.injEq, true_and] at hdi
 rw [World.var?_cell hg hvar k, ← Array.getElem?_toList, hc, List.getD_eq_getElem?_getD, hnk, hdi]
 rfl
theorem kindsL_in (k : Nat) : 0 ≤ kindsL.getD k 0 ∧ kindsL.getD k 0 ≤ 60 := by
 match k with
 | 0 => decide
 | 1 => decide
 | 2 => decide
 | 3 => decide
 | 4 => decide
 | 5 => decide
 | 6 => decide
 | 7 => decide
 | 8 => decide
 | 9 => decide
 | 10 => decide
 | 11 => decide
 | 12 => decide
 | 13 => decide
 | 14 => decide
 | 15 => decide
 | 16 => decide
 | 17 => decide
 | 18 => decide
 | 19 => decide
 | 20 => decide
 | 21 => decide
 | 22 => decide
 | 23 => decide
 | 24 => decide
 | 25 => decide
 | 26 => decide
 | 27 => decide
 | k + 28 => rw [List.getD_eq_getElem?_getD, List.getElem?_eq_none (by simp [kindsL])]; decide
theorem op_any (n : Int) (w : World) (h : KindsTab w) : Calls Tryd.prog 33 #[.int .i64 n] w fun e w' => ∃ r : Int, e = .returned (.int .i64 r) ∧ 0 ≤ r ∧ r ≤ 60 ∧ w = w' := by
 have hlt := pickN_lt n 28 (by omega)
 have hpe : pick n 28 = (pickN n 28 : Int) := pickN_eq n 28 (by omega)
 have hc := h (pickN n 28) hlt
 have HP := hid hpe
 have HI := hid (kindsL_in (pickN n 28))
 clear h hpe
 generalize kindsL.getD (pickN n 28) 0 = S at *
 generalize pickN n 28 = k at *
 have hw : IntKind.i64.wrap (n.tmod 37) = n.tmod 37 := wrap_tmod (by omega) (by omega)
 go_enter Tryd.func33, Tryd.ntmps33
 by_cases h36 : n.tmod 37 = 36
 ·have hb : (n.tmod 37 == 36) = true := by simpa using h36
  go_wp2_with fail
  refine (pick_any _ 60 _ (by omega) (by omega)).mono ?_
  rintro e w1 ⟨rfl, rfl⟩
  go_wp2_with fail
  go_ret
  exact ⟨_, rfl, pick_lo _ 60 (by omega), Int.le_of_lt (pick_hi _ 60 (by omega)), rfl⟩
 ·have hb : (n.tmod 37 == 36) = false := by simpa using h36
  go_wp2_with fail
  refine (pick_any n 28 _ (by omega) (by omega)).mono ?_
  rintro e w1 ⟨rfl, rfl⟩
  rw [HP.out]
  have hb : (k : Int) < 28 := by omega
  go_wp2_with fail
  go_ret
  exact ⟨_, rfl, HI.out.1, HI.out.2, rfl⟩
end
section
open Go.RowKit
set_option linter.unusedVariables false
set_option linter.unusedSimpArgs false
set_option maxRecDepth 100000
set_option maxHeartbeats 4000000
/-- The item at p, of a tag, its kids so many; F holds of all that it reaches; its block and its row stand ahead of c. -/
def PObj (w : World) (tag : Int) (F : Nat → Prop) (z p m c : Nat) : Prop := ∃ s l, OwnObj 27 w z p tag s l ∧ s.n = m ∧ (∀ k, s.v.ownBlock = some k → k < c) ∧ (∀ x ∈ l, x.typ ≠ 0 ∧ nz x.it = true) ∧ (∀ x ∈ l, ∀ k ∈ x.foot, F k) ∧ p < c ∧ c ≤ w.heap.size ∧ z ≤ p ∧ ∀ k, z ≤ k → F k
section
variable {w w' W : World} {tag : Int} {F : Nat → Prop} {z p m c : Nat}
theorem PObj.below (h : PObj w tag F z p m c) (hb : Below w.heap.size w w') : PObj w' tag F z p m c :=
 let ⟨s, l, h1, h2, h3, h4, h5, h6, h7, h8⟩ := h; ⟨s, l, h1.below hb, h2, h3, h4, h5, h6, Nat.le_trans h7 hb.size, h8⟩
theorem Bx2.belowZ {T T' : TypeId} {b : Nat} {cs zs : Array Value} (h : Bx2 T T' w W b cs zs) (hb : Below (b + 2) W w') : Bx2 T T' w w' b cs zs :=
 ⟨(hb.block _ (by omega)).trans h.box, (hb.block _ (by omega)).trans h.res, h.bel.trans (hb.mono (by omega))⟩
theorem Chg.of_belowB {b : Nat} (hb : Below b w w') : Chg ((List.range w.heap.size).filter (fun k => decide (b ≤ k))) w w' :=
 ⟨hb.os, hb.tape, hb.output, hb.size, fun k hk hG => hb.block k (by
  rcases Nat.lt_or_ge k b with h | h
  ·exact h
  ·exact absurd (List.mem_filter.2 ⟨List.mem_range.2 hk, by simpa using h⟩) hG)⟩
theorem ItV.ok.belowL {b : Nat} (hb : Below b w w') {v : ItV} (h : v.ok w) (hl : ∀ k ∈ v.foot, k < b) : v.ok w' :=
 ItV.ok.keep (Chg.of_belowB hb) h (fun k hk hm => by have := hl k hk; have := (List.mem_filter.1 hm).2; simp at this; omega)
theorem PObj.num {m' : Nat} (h : PObj w tag F z p m c) (e : m = m') : PObj w tag F z p m' c := e ▸ h
theorem PObj.mark (h : PObj w tag F z p m c) : PObj w tag F z p m w.heap.size :=
 let ⟨s, l, h1, h2, h3, h4, h5, h6, h7, h8⟩ := h; ⟨s, l, h1, h2, fun k hk => Nat.lt_of_lt_of_le (h3 k hk) h7, h4, h5, Nat.lt_of_lt_of_le h6 h7, Nat.le_refl _, h8⟩
theorem PObj.lt (h : PObj w tag F z p m c) : p < c ∧ c ≤ w.heap.size ∧ z ≤ p ∧ (∀ k, z ≤ k → F k) := let ⟨s, l, h1, h2, h3, h4, h5, h6, h7, h8, h9⟩ := h; ⟨h6, h7, h8, h9⟩
theorem nz_ofP {t : Int} {s : Sl} {l : List ItV} (hl : ∀ x ∈ l, x.typ ≠ 0 ∧ nz x.it = true) : nz (ItV.it { tag := t, typ := 1, ks := s, kids := l }) = true := by
 rw [ItV.it_eq, nz, nzAll_mem]
 intro y hy
 obtain ⟨x, hx, rfl⟩ := List.mem_map.1 hy
 exact ⟨.inr (by rw [ItV.it_eq]; exact (hl x hx).1), (hl x hx).2⟩
theorem foot_ofP {t : Int} {s : Sl} {l : List ItV} {F : Nat → Prop} (hs : ∀ k ∈ s.blk, F k) (hl : ∀ x ∈ l, ∀ k ∈ x.foot, F k) : ∀ k ∈ ItV.foot { tag := t, typ := 1, ks := s, kids := l }, F k := fun k hk => by
 rcases ItV.mem_foot.1 hk with h | h | ⟨x, hx, h⟩
 ·simp [Sl.blk] at h
 ·exact hs k h
 ·exact hl x hx k h
/-- A structure, made. -/
structure PV (w : World) (tag : Int) (F : Nat → Prop) (m : Nat) (v : ItV) : Prop where
 ok : v.ok w
 nz : nz v.it = true
 typ : v.typ = 1
 tag : v.tag = tag
 int : v.int = 0
 data : v.data = []
 dn : v.ds.n = 0
 foot : ∀ k ∈ v.foot, F k
 ks : v.ks.n = m
theorem PObj.fin (h : PObj w tag F z p m c) (hm : m ≤ 1099511627776) : ∃ v : ItV, w.heap[p]? = some (.cells v.arr 27 (0, 0)) ∧ PV w tag F m v := by
 obtain ⟨s, l, h1, rfl, h3, h4, h5, h6, h7, h8, h9⟩ := h
 exact ⟨{ tag := tag, typ := 1, ks := s, kids := l }, h1.blk, h1.item hm, nz_ofP h4, rfl, rfl, rfl, rfl, rfl, foot_ofP (fun k hk => h9 k (blk_own h1.own.own k hk)) h5, rfl⟩
theorem PV.below {v : ItV} {m : Nat} (h : PV w tag F m v) (hb : Below w.heap.size w w') : PV w' tag F m v := ⟨h.ok.below hb, h.2, h.3, h.4, h.5, h.6, h.7, h.8, h.9⟩
theorem PV.keep {v : ItV} {m : Nat} {G : List Nat} (h : PV w tag F m v) (hc : Chg G w w') (hd : ∀ k ∈ G, ¬ F k) : PV w' tag F m v := ⟨ItV.ok.keep hc h.ok (fun k hk hm => hd k hm (h.foot k hk)), h.2, h.3, h.4, h.5, h.6, h.7, h.8, h.9⟩
/-- The start: the item is stored in a new block. -/
theorem PObj.start {s : Sl} {l : List ItV} (ho : OwnIt 27 w z 0 s l) (hb : Below w.heap.size w w') (hp : w'.heap[w.heap.size]? = some (.cells (ItV.arr { tag := tag, typ := 1, ks := s, kids := l }) 27 (0, 0)))
  (hl : ∀ x ∈ l, x.typ ≠ 0 ∧ nz x.it = true) (hlo : ∀ x ∈ l, ∀ k ∈ x.foot, F k) (hz : z ≤ w.heap.size) (hz2 : ∀ k, z ≤ k → F k) {m : Nat} (hm : s.n = m) : PObj w' tag F z w.heap.size m w'.heap.size :=
 ⟨s, l, ⟨hp, ho.below hb, fun k hk he => by have := (ho.own.lt k hk).2; omega, fun x hx hm => by have := (ho.ok x hx).lt _ (footN_sub x _ hm); omega⟩, hm, fun k hk => Nat.lt_of_lt_of_le (ho.own.lt k hk).2 hb.size, hl, hlo, block_lt hp, Nat.le_refl _, hz, hz2⟩
/-- Blocks of other types stay as they are. -/
def Kept (w w' : World) : Prop := ∀ (q : Nat) (C : Array Value) (T : TypeId) (f : Nat × Nat), w.heap[q]? = some (Obj.cells C T f) → T ≠ 27 → w'.heap[q]? = some (Obj.cells C T f)
theorem Kept.of_below (hb : Below w.heap.size w w') : Kept w w' := fun q C T f h _ => (hb.block _ (block_lt h)).trans h
theorem Kept.trans (h1 : Kept w W) (h2 : Kept W w') : Kept w w' := fun q C T f h ht => h2 q C T f (h1 q C T f h ht) ht
/-- One kid more: the row has grown, the slice is laid back. -/
theorem PObj.pushed {s : Sl} {l ys : List ItV} {w1 w8 : World} {a : Option Addr} {n cc : Nat} (h : OwnObj 27 w1 z p tag s l) (hc : ∀ k, s.v.ownBlock = some k → k < c) (h4 : ∀ x ∈ l, x.typ ≠ 0 ∧ nz x.it = true) (h5 : ∀ x ∈ l, ∀ k ∈ x.foot, F k) (h6 : p < c) (h7 : c ≤ w1.heap.size) (h8 : z ≤ p) (h9 : ∀ k, z ≤ k → F k)
  (hy : ∀ y ∈ ys, y.ok w1) (hap : ∀ y ∈ ys, ∀ k ∈ y.foot, s.v.ownBlock ≠ some k ∧ k ≠ p) (hyt : ∀ y ∈ ys, y.typ ≠ 0 ∧ nz y.it = true) (hyl : ∀ y ∈ ys, ∀ k ∈ y.foot, F k)
  (ho : w8.ownsRow z 27 5 (.slice a n cc) n (itmCells l ++ itmCells ys)) (hg : w1.grownBy w8 s.v.ownBlock) (hf : (Value.slice a n cc).ownBlock = s.v.ownBlock ∨ ∀ k, (Value.slice a n cc).ownBlock = some k → w1.heap.size ≤ k) :
  w8.heap[p]? = some (.cells (ItV.arr { tag := tag, typ := 1, ks := s, kids := l }) 27 (0, 0)) ∧ PObj (w8.setCell ⟨p, 4, none⟩ (.slice a n cc)) tag F z p n (w8.setCell ⟨p, 4, none⟩ (.slice a n cc)).heap.size ∧ Below z w1 (w8.setCell ⟨p, 4, none⟩ (.slice a n cc)) ∧ Kept w1 (w8.setCell ⟨p, 4, none⟩ (.slice a n cc)) := by
 have hpush := h.push (ys := ys) (a := a) (n := n) (c := cc) (Below.refl _ _) hy hap (by rw [itm_app]; exact ho) hg hf
 have hgb : Below z w1 w8 := (Below.refl _ _).grown hg (by omega) (fun q hq => (h.own.own.lt q hq).1)
 have hbb : Below z w1 (w8.setCell ⟨p, 4, none⟩ (.slice a n cc)) := hgb.setCell (p := ⟨p, 4, none⟩) h8 _
 refine ⟨hpush.1, ⟨⟨a, n, cc⟩, l ++ ys, hpush.2, rfl, fun k hk => ?_, fun x hx => ?_, fun x hx => ?_, Nat.lt_of_lt_of_le (Nat.lt_of_lt_of_le h6 h7) hbb.size, Nat.le_refl _, h8, h9⟩, hbb, fun q C T f hq ht => ?_⟩
 ·exact (hpush.2.own.own.lt k hk).2
 ·rcases List.mem_append.1 hx with h' | h'
  ·exact h4 x h'
  ·exact hyt x h'
 ·rcases List.mem_append.1 hx with h' | h'
  ·exact h5 x h'
  ·exact hyl x h'
 ·have hqp : q ≠ p := fun he => by
   subst he
   rw [h.blk] at hq
   simp at hq
   exact ht hq.2.1.symm
  rw [block_setCell_other hqp]
  have hqo : q ∉ s.v.ownBlock.toList := fun hm => by
   have hv : s.v.ownBlock = some q := by cases hv : s.v.ownBlock with
    | none => rw [hv] at hm; cases hm
    | some y => rw [hv] at hm; simp at hm; rw [hm]
   have hr := h.own.own
   rcases hr.2 with ⟨hv', _⟩ | ⟨g, cap, cur, hv', _, hh, _⟩
   ·rw [show s.v = Value.slice s.a s.n s.c from rfl, hv'] at hv; simp [Value.ownBlock] at hv
   ·rw [show s.v = Value.slice s.a s.n s.c from rfl, hv'] at hv
    simp [Value.ownBlock] at hv
    subst hv
    rw [hh] at hq
    simp at hq
    exact ht hq.2.1.symm
  exact ((((Chg.refl s.v.ownBlock.toList w1).grown hg (fun k hk => .inl (by rw [hk]; simp))).block q (block_lt hq) hqo).trans hq)
end
end
section
open Go.RowKit
set_option linter.unusedVariables false
set_option linter.unusedSimpArgs false
set_option maxRecDepth 100000
set_option maxHeartbeats 4000000

def atArr (nm : ByteArray) (i : Int) (v : ItV) : Array Value := #[.string nm, .int .i64 i, .int .i64 v.tag, .int .i64 v.typ, .int .i64 v.int, .slice v.ds.a v.ds.n v.ds.c, .slice v.ks.a v.ks.n v.ks.c]
theorem at_one (nm : ByteArray) (i : Int) (v : ItV) : (atArr nm i v).all (·.oneCell') = true := by simp [atArr, Value.oneCell']
def stKidG (cw : Nat) : St Grow := ⟨fun v w => ∃ x : ItV, v = .agg x.arr ∧ x.ok w ∧ (∀ k ∈ x.foot, cw ≤ k) ∧ x.typ ≠ 0 ∧ nz x.it = true, fun v w w' h hg => let ⟨x, e, h2, h3⟩ := h; ⟨x, e, h2.below hg, h3⟩⟩
def stKidsG (cw : Nat) : St Grow := ⟨fun v w => ∃ (s : Sl) (x : ItV), v = .slice s.a s.n s.c ∧ s.n = 1 ∧ SlR w s 5 (itmCells [x]) ∧ x.ok w ∧ (∀ k ∈ x.foot, cw ≤ k) ∧ x.typ ≠ 0 ∧ nz x.it = true, fun v w w' h hg => let ⟨s, x, e, h0, h2, h3, h4⟩ := h; ⟨s, x, e, h0, h2.below hg, h3.below hg, h4⟩⟩
/-- An item that the call makes; F holds of what it reaches. -/
def LRes (F : Nat → Prop) (w : World) (e : Ending) (w' : World) : Prop := ∃ v : ItV, e = .returned (.agg v.arr) ∧ v.ok w' ∧ nz v.it = true ∧ (∀ k ∈ v.foot, F k) ∧ v.typ ≠ 0 ∧ Below w.heap.size w w'
theorem pay_rangeA (nm : ByteArray) (i : Int) (x : ItV) : ∀ (j : Nat) v, x.arr.toList[j]? = some v → (atArr nm i x)[2 + j]? = some v := by
 intro j v h
 match j with
 | 0 => exact h
 | 1 => exact h
 | 2 => exact h
 | 3 => exact h
 | 4 => exact h
 | j + 5 => simp [ItV.arr] at h
theorem atSize : (Tryd.prog.info? 90).map (·.size) = some 7 := by kernel_rfl
theorem atZero : (Tryd.prog.info? 90).map (·.zero) = some (some (.agg (atArr ⟨#[]⟩ 0 {}))) := by kernel_rfl
theorem atBuild (nm : ByteArray) (i : Int) (v : ItV) (w : World) : (Instr.build 90 #[(0, .string nm), (1, .int .i64 i), (2, .agg v.arr)]).run Tryd.prog w = .ok (.agg (atArr nm i v)) w := by kernel_rfl
theorem atBuild2 (nm : ByteArray) (v : ItV) (w : World) : (Instr.build 90 #[(0, .string nm), (2, .agg v.arr)]).run Tryd.prog w = .ok (.agg (atArr nm 0 v)) w := by kernel_rfl
theorem rawSzA : (Tryd.prog.info? 75).map (·.size) = some 4 := by kernel_rfl
theorem attr_any (x : RawD) (hx : x.ok) (w : World) (ht : NamesTab w) : Calls Tryd.prog 56 #[.agg x.cells] w fun e w' => ∃ nm i v, e = .returned (.agg (atArr nm i v)) ∧ nm.size ≤ 40 ∧ v.ok w' ∧ nz v.it = true ∧ (∀ k ∈ v.foot, w.heap.size ≤ k) ∧ v.typ ≠ 0 ∧ Below w.heap.size w w' := by
 have HX := hid hx
 have HT := hid ht
 clear hx ht
 generalize hbe : w.heap.size = b
 have HBE := hid hbe; clear hbe
 go_enter Tryd.func56, Tryd.ntmps56
 go_upto_region 1 with (refine wpList_alloc_obj rfl 90 rfl _ atZero ?_)
 go_simp
 have B0 := hid (Bx2.start (T := 75) (T' := 90) (cs := x.cells) (zs := atArr ⟨#[]⟩ 0 {}) (w := w) HBE.out)
 have HT0 := hid (HT.out.below (((Below.refl _ w).alloc (Nat.le_refl _) (.cells x.cells 75)).alloc (by simp) (.cells (atArr ⟨#[]⟩ 0 {}) 90)))
 rw [HBE.out]
 generalize (w.alloc (.cells x.cells 75)).alloc (.cells (atArr ⟨#[]⟩ 0 {}) 90) = W at *
 clear HT
 have c0 : W.cell? ⟨b, 0, none⟩ = some (.int .i64 x.kind) := cell_of_block (j := 0) B0.out.box rfl
 have c2 : W.cell? ⟨b, 2, none⟩ = some (.int .i64 x.b) := cell_of_block (j := 2) B0.out.box rfl
 have HNS := hid (nmL_size (pickN x.kind 24))
 go_wp2_with fail
 refine (name_any x.kind _ HT0.out).mono ?_
 rintro e u ⟨rfl, rfl⟩
 generalize nmL.getD (pickN x.kind 24) ⟨#[]⟩ = nm at *
 have hw : IntKind.i64.wrap (x.b.tmod 3) = x.b.tmod 3 := wrap_tmod (by omega) (by omega)
 by_cases h3 : x.b.tmod 3 = 0
 ·have h3b : (x.b.tmod 3 == 0) = true := by simpa using h3
  go_wp2_with fail
  refine (pick_any _ 4 _ (by omega) (by omega)).mono ?_
  rintro e u ⟨rfl, rfl⟩
  generalize pick _ 4 = ix
  go_wp2_with (refine wpList_load_row rfl 75 _ rfl b rfl _ _ _ _ B0.out.box Tryd.underlying75 rfl rawSzA ?_)
  refine (value_any _ x HX.out _).mono ?_
  rintro e wn ⟨v, rfl, hvo, hvn, hb, hvf, hvt⟩
  have B1 := hid (B0.out.below hb)
  have HVO := hid hvo
  have HVF : Hid (∀ k ∈ v.foot, b + 2 ≤ k) := fun k hk => Nat.le_trans B0.out.size (hvf k hk)
  have HVN := hid hvn; have HVT := hid hvt
  clear hvo hvn hb hvf hvt
  have hsz : v.arr.size = 5 := rfl
  go_wp2_with (first | (refine wpList_build_obj rfl 90 _ rfl #[(0, .string nm), (1, .int .i64 ix), (2, .agg v.arr)] rfl _ (atBuild _ _ _ _) ?_) | (refine wpList_store_obj rfl 90 _ _ rfl (b + 1) rfl (atArr nm ix v) rfl _ _ B1.out.res rfl atSize (at_one _ _ _) ?_; intro w10 hb10 hc10 hs10; have HB10 := hid hb10; have HC10 := hid hc10; clear hb10 hc10 hs10))
  refine bodyPost_ret (results_cell_row rfl _ _ (b + 1) _ _ _ _ rfl HB10.out Tryd.underlying90 rfl atSize) rfl ?_
  exact ⟨nm, ix, v, rfl, HNS.out, ItV.ok.keep HC10.out HVO.out (fun k hk hm => by have := HVF.out k hk; have := List.mem_singleton.1 hm; omega), HVN.out, (fun k hk => by have := HVF.out k hk; omega), HVT.out, B1.out.done HC10.out⟩
 ·have h3b : (x.b.tmod 3 == 0) = false := by simpa using h3
  go_wp2_with (refine wpList_load_row rfl 75 _ rfl b rfl _ _ _ _ B0.out.box Tryd.underlying75 rfl rawSzA ?_)
  refine (value_any _ x HX.out _).mono ?_
  rintro e wn ⟨v, rfl, hvo, hvn, hb, hvf, hvt⟩
  have B1 := hid (B0.out.below hb)
  have HVO := hid hvo
  have HVF : Hid (∀ k ∈ v.foot, b + 2 ≤ k) := fun k hk => Nat.le_trans B0.out.size (hvf k hk)
  have HVN := hid hvn; have HVT := hid hvt
  clear hvo hvn hb hvf hvt
  have hsz : v.arr.size = 5 := rfl
  go_wp2_with (first | (refine wpList_build_obj rfl 90 _ rfl #[(0, .string nm), (1, .int .i64 0), (2, .agg v.arr)] rfl _ (atBuild _ _ _ _) ?_) | (refine wpList_store_obj rfl 90 _ _ rfl (b + 1) rfl (atArr nm 0 v) rfl _ _ B1.out.res rfl atSize (at_one _ _ _) ?_; intro w10 hb10 hc10 hs10; have HB10 := hid hb10; have HC10 := hid hc10; clear hb10 hc10 hs10))
  refine bodyPost_ret (results_cell_row rfl _ _ (b + 1) _ _ _ _ rfl HB10.out Tryd.underlying90 rfl atSize) rfl ?_
  exact ⟨nm, 0, v, rfl, HNS.out, ItV.ok.keep HC10.out HVO.out (fun k hk hm => by have := HVF.out k hk; have := List.mem_singleton.1 hm; omega), HVN.out, (fun k hk => by have := HVF.out k hk; omega), HVT.out, B1.out.done HC10.out⟩
end
section
open Go.RowKit
set_option linter.unusedVariables false
set_option linter.unusedSimpArgs false
set_option maxRecDepth 100000
set_option maxHeartbeats 4000000
theorem layA_any (nm : ByteArray) (ix : Int) (v : ItV) (F : Nat → Prop) (w : World) (hn : nm.size ≤ 1000) (hv : v.ok w) (hnz : nz v.it = true) (ht : v.typ ≠ 0) (hlo : ∀ k ∈ v.foot, F k) (hlw : ∀ k, w.heap.size ≤ k → F k) :
  Calls Tryd.prog 55 #[.agg (atArr nm ix v)] w (LRes F w) := by
 obtain ⟨i, hi, hz0, hz1, hz2⟩ := info_parts iInfo
 have HLT : Hid (∀ k ∈ v.foot, k < w.heap.size) := hv.lt
 have HV := hid hv; have HNZ := hid hnz; have HT := hid ht; have HLO := hid hlo; have HLW := hid hlw
 clear hv hnz ht hlo hlw
 unfold LRes
 generalize hbe : w.heap.size = b at *
 have HBE := hid hbe; clear hbe
 go_enter Tryd.func55, Tryd.ntmps55
 go_upto_region 1 with (refine wpList_alloc_obj rfl 27 rfl _ iZero ?_)
 go_simp
 have B0 := hid (Bx2.start (T := 90) (T' := 27) (cs := atArr nm ix v) (zs := itZ.arr) (w := w) HBE.out)
 have HV0 := hid (HV.out.below (((Below.refl _ w).alloc (Nat.le_refl _) (.cells (atArr nm ix v) 90)).alloc (by simp) (.cells itZ.arr 27)))
 rw [HBE.out]
 generalize (w.alloc (.cells (atArr nm ix v) 90)).alloc (.cells itZ.arr 27) = W at *
 clear HV
 have c0 : W.cell? ⟨b, 0, none⟩ = some (.string nm) := cell_of_block (j := 0) B0.out.box rfl
 go_wp2_with fail
 refine (handText_any 4325386 nm _ (by omega)).mono ?_
 rintro e w2 ⟨v1, rfl, hi1, ho1, hf1, hb2⟩
 clear c0
 have B2 := hid (B0.out.below hb2); have HV2 := hid (HV0.out.below hb2)
 have HF1 : Hid (∀ k ∈ v1.foot, b + 2 ≤ k) := fun k hk => Nat.le_trans B0.out.size (hf1 k hk)
 have HN1 : Hid (v1.typ ≠ 0 ∧ nz v1.it = true) := ⟨by rw [← it_typ', hi1]; show (7 : Int) ≠ 0; decide, by rw [hi1]; rfl⟩
 have HO1 := hid ho1
 clear hi1 ho1 hf1 hb2 B0 HV0
 have hb3 : Below w2.heap.size w2 (w2.alloc (.cells v1.arr 27)) := (Below.refl _ _).alloc (Nat.le_refl _) _
 have HOW := hid (own_one (T := 27) (base := b + 2) v1 HO1.out B2.out.size)
 have B3 := hid (B2.out.below hb3); have HV3 := hid (HV2.out.below hb3)
 go_wp2_with (refine wpList_build_item rfl 25 27 _ rfl v1 rfl i Tryd.underlying25 hi hz0 hz1 ?_)
 clear hb3 B2 HV2 HO1
 generalize w2.alloc (.cells v1.arr 27) = w3 at *
 generalize w2.heap.size = z2 at *
 refine (handOf_any _ ⟨some ⟨z2, 0, none⟩, 1, 1⟩ _).mono ?_
 rintro e w4 ⟨rfl, hb4⟩
 have HOW4 := hid (HOW.out.below hb4); have B4 := hid (B3.out.below hb4); have HV4 := hid (HV3.out.below hb4)
 clear hb4 B3 HV3 HOW
 go_upto_region 2 with (first | (refine wpList_alloc_obj rfl 27 rfl _ iZero ?_) | (refine wpList_store_obj rfl 27 _ _ rfl w4.heap.size rfl (ItV.arr { tag := 4325384, typ := 1, ks := ⟨some ⟨z2, 0, none⟩, 1, 1⟩, kids := [v1] }) rfl _ _ (block_new w4 _) rfl iSize (arr_one _) ?_; intro w6 hb6 hc6 hs6; have HB6 := hid hb6; have HC6 := hid hc6; clear hb6 hc6 hs6))
 have hb6 : Below w4.heap.size w4 w6 := ((Below.refl _ w4).alloc (Nat.le_refl _) _).trans (HC6.out.below (fun k hk => by rw [List.mem_singleton.1 hk]; exact Nat.le_refl _) (by simp))
 have HP := hid (PObj.start (F := (fun k => F k ∧ k ≠ b + 1)) HOW4.out hb6 HB6.out (fun x hx => by rw [List.mem_singleton.1 hx]; exact HN1.out) (fun x hx k hk => by rw [List.mem_singleton.1 hx] at hk; have := HF1.out k hk; exact ⟨HLW.out k (by omega), by omega⟩) B4.out.size (fun k hk => ⟨HLW.out k (by omega), by omega⟩) (m := 1) rfl)
 have B6 := hid (B4.out.below hb6); have HV6 := hid (HV4.out.below hb6)
 clear hb6 HB6 HC6 HOW4 B4 HV4 HN1 HF1
 generalize w4.heap.size = p at *
 have c1 : w6.cell? ⟨b, 1, none⟩ = some (.int .i64 ix) := cell_of_block (j := 1) B6.out.box rfl
 by_cases h0 : ix = 0
 ·have h0b : (ix == 0) = true := by simpa using h0
  obtain ⟨s, l, hj, hsn, hown, hnzl, hlol, hpc, hcw, hzp, hloz⟩ := HP.out
  have HJ0 := hid hj; have HSN := hid hsn; have HQ0 := hid (And.intro hpc (And.intro hcw (And.intro hzp (And.intro hloz (And.intro hown (And.intro hnzl hlol))))))
  clear hj hsn hown hnzl hlol hpc hcw hzp hloz HP
  have hp4 := cell_of_block (j := 4) HJ0.out.blk (ar4 _)
  have HRG := hid (range_of_block B6.out.box 2 v.arr.toList (pay_rangeA nm ix v))
  go_wp2_with (first | (refine wpList_load_mid rfl 27 _ rfl b 2 rfl v.arr.toList _ HRG.out Tryd.underlying27 rfl iSize ?_; simp only [Array.toArray_toList]) | (refine wpList_build_item rfl 25 27 _ rfl v rfl i Tryd.underlying25 hi hz0 hz1 ?_; clear hp4 HRG; have hg : Grow w6 (w6.alloc (.cells v.arr 27)) := (Below.refl _ _).alloc (Nat.le_refl _) _; have hs1 : SlR (w6.alloc (.cells v.arr 27)) ⟨some ⟨w6.heap.size, 0, none⟩, 1, 1⟩ 5 (itmCells [v]) := SlR.built (by simp [itmCells, ItV.cells]) rfl (by decide); have hyo := HV6.out.below hg; have hyap : ∀ k ∈ v.foot, s.v.ownBlock ≠ some k ∧ k ≠ p := fun k hk => ⟨fun he => (by have h1 := HLT.out k hk; have h2 := HQ0.out.2.2.1; have h4 := (HJ0.out.own.own.lt k he).1; omega), (by have h1 := HLT.out k hk; have h2 := HQ0.out.2.2.1; omega)⟩; have hyF : ∀ k ∈ v.foot, ((fun k => F k ∧ k ≠ b + 1) : Nat → Prop) k := fun k hk => ⟨HLO.out k hk, (by have h1 := HLT.out k hk; omega)⟩; have hyt := And.intro HT.out HNZ.out; have B8 := hid (B6.out.below hg); obtain ⟨ys, hys⟩ : ∃ ys, ys = [v] := ⟨_, rfl⟩; rw [← hys] at hs1; have HJ := hid (HJ0.out.below hg); have HQ := hid (And.intro HQ0.out.1 (And.intro (Nat.le_trans HQ0.out.2.1 hg.size) HQ0.out.2.2)); have HYS := hid (And.intro (show ∀ y ∈ ys, y.ok _ from fun y hy => by rw [hys] at hy; rw [List.mem_singleton.1 hy]; exact hyo) (And.intro (show ∀ y ∈ ys, ∀ k ∈ y.foot, s.v.ownBlock ≠ some k ∧ k ≠ p from fun y hy k hk => by rw [hys] at hy; rw [List.mem_singleton.1 hy] at hk; exact hyap k hk) (And.intro (show ∀ y ∈ ys, y.typ ≠ 0 ∧ nz y.it = true from fun y hy => by rw [hys] at hy; rw [List.mem_singleton.1 hy]; exact hyt) (show ∀ y ∈ ys, ∀ k ∈ y.foot, ((fun k => F k ∧ k ≠ b + 1) : Nat → Prop) k from fun y hy k hk => by rw [hys] at hy; rw [List.mem_singleton.1 hy] at hk; exact hyF k hk)))); have HS1 := hid hs1; clear hs1 hyo hyap hyF hyt hg HJ0 HQ0 hys B6 HV6; generalize w6.alloc (.cells v.arr 27) = w7 at *; generalize w6.heap.size = z6 at *) | (at_builtin; go_must (refine wpList_append_c rfl _ _ 25 rfl (b + 2) 27 i _ 5 72 Tryd.underlying25 hi hz0 hz1 hz2 rfl (by decide) (.slice s.a s.n s.c) s.n _ rfl HJ.out.own.own _ 1 _ (itmCells ys) rfl HS1.out.rd (itm_one ys) HS1.out.no (by have := HSN.out; unfold maxLen; omega) (by have := HSN.out; omega) (by have := HQ.out; omega) ?_); intro a' c' w8 hown hgw hfr; have hpush := PObj.pushed (F := (fun k => F k ∧ k ≠ b + 1)) HJ.out HQ.out.2.2.2.2.1 HQ.out.2.2.2.2.2.1 HQ.out.2.2.2.2.2.2 HQ.out.1 HQ.out.2.1 HQ.out.2.2.1 HQ.out.2.2.2.1 HYS.out.1 HYS.out.2.1 HYS.out.2.2.1 HYS.out.2.2.2 hown hgw hfr; have hq4 := cell_of_block (j := 4) hpush.1 (ar4 _); have hp8 := hid hpush.1; have hfz : ∀ j, w8.frozen? ⟨p, j, none⟩ = false := (fun j => frozen_of_block hp8.out); have HPN := hid hpush.2; have B9 := hid (B8.out.belowZ hpush.2.2.1); obtain ⟨v9, hv9, hpv9⟩ := hpush.2.1.fin (by have := HSN.out; omega); have HV9 := hid hv9; have HPV := hid hpv9; clear hv9 hpv9; clear hown hgw hfr hpush hp8) | (refine wpList_load_row rfl 27 _ rfl p rfl _ _ _ _ HV9.out Tryd.underlying27 rfl iSize ?_) | (refine wpList_store_obj rfl 27 _ _ rfl (b + 1) rfl v9.arr rfl _ _ B9.out.res rfl iSize (arr_one _) ?_; intro w10 hb10 hc10 hs10; have HB10 := hid hb10; have HC10 := hid hc10; clear hb10 hc10 hs10))
  refine bodyPost_ret (results_cell_row rfl _ _ (b + 1) _ _ _ _ rfl HB10.out Tryd.underlying27 rfl iSize) rfl ?_
  exact ⟨v9, rfl, ItV.ok.keep HC10.out HPV.out.ok (fun k hk hm => (HPV.out.foot k hk).2 (List.mem_singleton.1 hm)), HPV.out.nz, (fun k hk => (HPV.out.foot k hk).1), (by rw [HPV.out.typ]; decide), B9.out.done HC10.out⟩
 ·have h0b : (ix == 0) = false := by simpa using h0
  go_upto_region 3 with (fail)
  clear c1
  obtain ⟨s, l, hj, hsn, hown, hnzl, hlol, hpc, hcw, hzp, hloz⟩ := HP.out
  have HJ0 := hid hj; have HSN := hid hsn; have HQ0 := hid (And.intro hpc (And.intro hcw (And.intro hzp (And.intro hloz (And.intro hown (And.intro hnzl hlol))))))
  clear hj hsn hown hnzl hlol hpc hcw hzp hloz HP
  obtain ⟨cw, hcw⟩ : ∃ c, c = w6.heap.size := ⟨_, rfl⟩
  have HCW : Hid (w6.heap.size = cw) := hcw.symm
  clear hcw
  refine wp_region_each 6 [.eq (.pointer (some ⟨p, 4, none⟩)), .eq (.slice s.a s.n s.c), .eq (.pointer (some ⟨b, 1, none⟩)), .eq (.int .i64 ix), stKidG cw, stKidsG cw] (by kernel_rfl) (by kernel_rfl) (by kernel_rfl) (by kernel_rfl) ?_ ?_
  ·as_aux_lemma =>
    refine each_5 ?_ ?_ ?_ ?_ ?_ (each_c ?_ (each_n))
    ·intro w1 hg Ar seen
     have s3 := seen.sl 3 (.pointer (some ⟨p, 0, none⟩))
     refine does_plain rfl fun K Q' hK => ?_
     go_simp; exact hK _ _ (Grow.refl _) rfl
    ·intro w1 hg Ar seen
     have e0 := seen.de 0 12
     refine does_plain rfl fun K Q' hK => ?_
     have hc := cell_of_block (j := 4) ((hg.block _ (block_lt HJ0.out.blk)).trans HJ0.out.blk) (ar4 _)
     go_simp; exact hK _ _ (Grow.refl _) rfl
    ·intro w1 hg Ar seen
     have s1 := seen.sl 1 (.pointer (some ⟨b, 0, none⟩))
     refine does_plain rfl fun K Q' hK => ?_
     go_simp; exact hK _ _ (Grow.refl _) rfl
    ·intro w1 hg Ar seen
     have e2 := seen.de 2 14
     refine does_plain rfl fun K Q' hK => ?_
     have hc := cell_of_block (j := 1) (v := .int .i64 ix) ((hg.block _ (block_lt B6.out.box)).trans B6.out.box) rfl
     go_simp; exact hK _ _ (Grow.refl _) rfl
    ·intro w1 hg Ar seen
     have e3 := seen.de 3 15
     refine does_plain rfl fun K Q' hK => ?_
     go_simp
     refine (handNum_any _ _ _ _).mono ?_
     rintro e u ⟨rfl, hb⟩
     exact hK _ _ hb ⟨_, rfl, numV_ok _ _ _ _, numV_foot _, by simp, numV_nz _ _ _⟩
    ·intro w1 hg Ar seen
     obtain ⟨v4, e4, h4⟩ := seen.dp 4 16
     refine does_plain rfl fun K Q' hK => ?_
     obtain ⟨x4, rfl, ho4, hf4, ht4⟩ := h4
     refine wp_build_itemsP _ 27 1 _ rfl [x4] rfl (by decide) (by decide) (by simp [Act.eval, e4] <;> rfl) (x4.arr) (by simp [itmCells, ItV.cells]) i Tryd.underlying25 hi hz0 hz1 (fill1 x4) ?_
     intro s hn hs
     exact hK _ _ ((Below.refl _ _).alloc (Nat.le_refl _) _) ⟨s, x4, rfl, hn, hs, ho4.below ((Below.refl _ _).alloc (Nat.le_refl _) _), hf4, ht4⟩
  intro w1 hg
  refine upon_w' (js := [0, 1, 2, 3, 4, 5]) (by rfl) ?_
  refine upon_e (some 12) (upon_e (some 13) (upon_e (some 14) (upon_e (some 15) (upon_v (some 16) fun v4 h4 => upon_v (some 17) fun v5 h5 => upon_n ?_))))
  have B8 := hid (B6.out.below hg)
  have HV8 := hid (HV6.out.below hg)
  obtain ⟨s1, y1, rfl, hn1, hs1, hyo, hyf, hyt⟩ := h5
  obtain ⟨a1, n1, c1⟩ := s1
  simp only at hn1
  subst hn1
  have hyap : ∀ k ∈ y1.foot, s.v.ownBlock ≠ some k ∧ k ≠ p := fun k hk => by
   have h1 := hyf k hk; have h2 := HQ0.out.1; have h3 := HCW.out; have h5 := HQ0.out.2.1
   exact ⟨fun he => by have h4 := HQ0.out.2.2.2.2.1 k he; omega, by omega⟩
  have hyF : ∀ k ∈ y1.foot, ((fun k => F k ∧ k ≠ b + 1) : Nat → Prop) k := fun k hk => by
   have h1 := hyf k hk; have h2 := HQ0.out.1; have h3 := HCW.out; have h4 := HQ0.out.2.2.1; have h5 := HQ0.out.2.1
   exact HQ0.out.2.2.2.1 k (by omega)
  obtain ⟨ys, hys⟩ : ∃ ys, ys = [y1] := ⟨_, rfl⟩
  rw [← hys] at hs1
  have HJ := hid (HJ0.out.below hg)
  have HQ := hid (And.intro HQ0.out.1 (And.intro (Nat.le_trans HQ0.out.2.1 hg.size) HQ0.out.2.2))
  have HYS := hid (And.intro (show ∀ y ∈ ys, y.ok _ from fun y hy => by rw [hys] at hy; rw [List.mem_singleton.1 hy]; exact hyo) (And.intro (show ∀ y ∈ ys, ∀ k ∈ y.foot, s.v.ownBlock ≠ some k ∧ k ≠ p from fun y hy k hk => by rw [hys] at hy; rw [List.mem_singleton.1 hy] at hk; exact hyap k hk) (And.intro (show ∀ y ∈ ys, y.typ ≠ 0 ∧ nz y.it = true from fun y hy => by rw [hys] at hy; rw [List.mem_singleton.1 hy]; exact hyt) (show ∀ y ∈ ys, ∀ k ∈ y.foot, ((fun k => F k ∧ k ≠ b + 1) : Nat → Prop) k from fun y hy k hk => by rw [hys] at hy; rw [List.mem_singleton.1 hy] at hk; exact hyF k hk))))
  have HS1 := hid hs1
  clear hs1 hyo hyap hyF hyt hg HJ0 HQ0 hys hyf HCW h4 B6 HV6
  go_simp
  go_upto_region 4 with (at_builtin; go_must (refine wpList_append_c rfl _ _ 25 rfl (b + 2) 27 i _ 5 72 Tryd.underlying25 hi hz0 hz1 hz2 rfl (by decide) (.slice s.a s.n s.c) s.n _ rfl HJ.out.own.own _ 1 _ (itmCells ys) rfl HS1.out.rd (itm_one ys) HS1.out.no (by have := HSN.out; unfold maxLen; omega) (by have := HSN.out; omega) (by have := HQ.out; omega) ?_); intro a' c' w8 hown hgw hfr; have hpush := PObj.pushed (F := (fun k => F k ∧ k ≠ b + 1)) HJ.out HQ.out.2.2.2.2.1 HQ.out.2.2.2.2.2.1 HQ.out.2.2.2.2.2.2 HQ.out.1 HQ.out.2.1 HQ.out.2.2.1 HQ.out.2.2.2.1 HYS.out.1 HYS.out.2.1 HYS.out.2.2.1 HYS.out.2.2.2 hown hgw hfr; have hq4 := cell_of_block (j := 4) hpush.1 (ar4 _); have hp8 := hid hpush.1; have hfz : ∀ j, w8.frozen? ⟨p, j, none⟩ = false := (fun j => frozen_of_block hp8.out); have HPN := hid hpush.2; have hb9 := hpush.2.2.1; have B9 := hid (B8.out.belowZ hb9); have HV9 := hid (ItV.ok.belowL hb9 HV8.out (fun k hk => (by have := HLT.out k hk; omega))); clear hb9; clear hown hgw hfr hpush hp8)
  have HP := hid (HPN.out.1.num (m' := 2) (by rw [HSN.out]))
  have B6 := B9; have HV6 := HV9
  clear B9 B8 HV9 HV8 HPN HJ HQ HYS HS1 HSN
  generalize w8.setCell ⟨p, 4, none⟩ (.slice a' (s.n + 1) c') = w6 at *
  obtain ⟨s, l, hj, hsn, hown, hnzl, hlol, hpc, hcw, hzp, hloz⟩ := HP.out
  have HJ0 := hid hj; have HSN := hid hsn; have HQ0 := hid (And.intro hpc (And.intro hcw (And.intro hzp (And.intro hloz (And.intro hown (And.intro hnzl hlol))))))
  clear hj hsn hown hnzl hlol hpc hcw hzp hloz HP
  have hp4 := cell_of_block (j := 4) HJ0.out.blk (ar4 _)
  have HRG := hid (range_of_block B6.out.box 2 v.arr.toList (pay_rangeA nm ix v))
  go_wp2_with (first | (refine wpList_load_mid rfl 27 _ rfl b 2 rfl v.arr.toList _ HRG.out Tryd.underlying27 rfl iSize ?_; simp only [Array.toArray_toList]) | (refine wpList_build_item rfl 25 27 _ rfl v rfl i Tryd.underlying25 hi hz0 hz1 ?_; clear hp4 HRG; have hg : Grow w6 (w6.alloc (.cells v.arr 27)) := (Below.refl _ _).alloc (Nat.le_refl _) _; have hs1 : SlR (w6.alloc (.cells v.arr 27)) ⟨some ⟨w6.heap.size, 0, none⟩, 1, 1⟩ 5 (itmCells [v]) := SlR.built (by simp [itmCells, ItV.cells]) rfl (by decide); have hyo := HV6.out.below hg; have hyap : ∀ k ∈ v.foot, s.v.ownBlock ≠ some k ∧ k ≠ p := fun k hk => ⟨fun he => (by have h1 := HLT.out k hk; have h2 := HQ0.out.2.2.1; have h4 := (HJ0.out.own.own.lt k he).1; omega), (by have h1 := HLT.out k hk; have h2 := HQ0.out.2.2.1; omega)⟩; have hyF : ∀ k ∈ v.foot, ((fun k => F k ∧ k ≠ b + 1) : Nat → Prop) k := fun k hk => ⟨HLO.out k hk, (by have h1 := HLT.out k hk; omega)⟩; have hyt := And.intro HT.out HNZ.out; have B8 := hid (B6.out.below hg); obtain ⟨ys, hys⟩ : ∃ ys, ys = [v] := ⟨_, rfl⟩; rw [← hys] at hs1; have HJ := hid (HJ0.out.below hg); have HQ := hid (And.intro HQ0.out.1 (And.intro (Nat.le_trans HQ0.out.2.1 hg.size) HQ0.out.2.2)); have HYS := hid (And.intro (show ∀ y ∈ ys, y.ok _ from fun y hy => by rw [hys] at hy; rw [List.mem_singleton.1 hy]; exact hyo) (And.intro (show ∀ y ∈ ys, ∀ k ∈ y.foot, s.v.ownBlock ≠ some k ∧ k ≠ p from fun y hy k hk => by rw [hys] at hy; rw [List.mem_singleton.1 hy] at hk; exact hyap k hk) (And.intro (show ∀ y ∈ ys, y.typ ≠ 0 ∧ nz y.it = true from fun y hy => by rw [hys] at hy; rw [List.mem_singleton.1 hy]; exact hyt) (show ∀ y ∈ ys, ∀ k ∈ y.foot, ((fun k => F k ∧ k ≠ b + 1) : Nat → Prop) k from fun y hy k hk => by rw [hys] at hy; rw [List.mem_singleton.1 hy] at hk; exact hyF k hk)))); have HS1 := hid hs1; clear hs1 hyo hyap hyF hyt hg HJ0 HQ0 hys B6 HV6; generalize w6.alloc (.cells v.arr 27) = w7 at *; generalize w6.heap.size = z6 at *) | (at_builtin; go_must (refine wpList_append_c rfl _ _ 25 rfl (b + 2) 27 i _ 5 72 Tryd.underlying25 hi hz0 hz1 hz2 rfl (by decide) (.slice s.a s.n s.c) s.n _ rfl HJ.out.own.own _ 1 _ (itmCells ys) rfl HS1.out.rd (itm_one ys) HS1.out.no (by have := HSN.out; unfold maxLen; omega) (by have := HSN.out; omega) (by have := HQ.out; omega) ?_); intro a' c' w8 hown hgw hfr; have hpush := PObj.pushed (F := (fun k => F k ∧ k ≠ b + 1)) HJ.out HQ.out.2.2.2.2.1 HQ.out.2.2.2.2.2.1 HQ.out.2.2.2.2.2.2 HQ.out.1 HQ.out.2.1 HQ.out.2.2.1 HQ.out.2.2.2.1 HYS.out.1 HYS.out.2.1 HYS.out.2.2.1 HYS.out.2.2.2 hown hgw hfr; have hq4 := cell_of_block (j := 4) hpush.1 (ar4 _); have hp8 := hid hpush.1; have hfz : ∀ j, w8.frozen? ⟨p, j, none⟩ = false := (fun j => frozen_of_block hp8.out); have HPN := hid hpush.2; have B9 := hid (B8.out.belowZ hpush.2.2.1); obtain ⟨v9, hv9, hpv9⟩ := hpush.2.1.fin (by have := HSN.out; omega); have HV9 := hid hv9; have HPV := hid hpv9; clear hv9 hpv9; clear hown hgw hfr hpush hp8) | (refine wpList_load_row rfl 27 _ rfl p rfl _ _ _ _ HV9.out Tryd.underlying27 rfl iSize ?_) | (refine wpList_store_obj rfl 27 _ _ rfl (b + 1) rfl v9.arr rfl _ _ B9.out.res rfl iSize (arr_one _) ?_; intro w10 hb10 hc10 hs10; have HB10 := hid hb10; have HC10 := hid hc10; clear hb10 hc10 hs10))
  refine bodyPost_ret (results_cell_row rfl _ _ (b + 1) _ _ _ _ rfl HB10.out Tryd.underlying27 rfl iSize) rfl ?_
  exact ⟨v9, rfl, ItV.ok.keep HC10.out HPV.out.ok (fun k hk hm => (HPV.out.foot k hk).2 (List.mem_singleton.1 hm)), HPV.out.nz, (fun k hk => (HPV.out.foot k hk).1), (by rw [HPV.out.typ]; decide), B9.out.done HC10.out⟩
theorem set_any (nm : ByteArray) (v : ItV) (F : Nat → Prop) (w : World) (hn : nm.size ≤ 1000) (hv : v.ok w) (hnz : nz v.it = true) (ht : v.typ ≠ 0) (hlo : ∀ k ∈ v.foot, F k) (hlw : ∀ k, w.heap.size ≤ k → F k) :
  Calls Tryd.prog 60 #[.string nm, .agg v.arr] w (LRes F w) := by
 have HLT : Hid (∀ k ∈ v.foot, k < w.heap.size) := hv.lt
 have HV := hid hv; have HNZ := hid hnz; have HT := hid ht; have HLO := hid hlo; have HLW := hid hlw
 clear hv hnz ht hlo hlw
 unfold LRes
 generalize hbe : w.heap.size = b at *
 have HBE := hid hbe; clear hbe
 go_enter Tryd.func60, Tryd.ntmps60
 go_upto_region 1 with (refine wpList_alloc_obj rfl 27 rfl _ iZero ?_)
 go_simp
 have B0 := hid (Bx2.start (T := 27) (T' := 27) (cs := v.arr) (zs := itZ.arr) (w := w) HBE.out)
 have HV0 := hid (HV.out.below (((Below.refl _ w).alloc (Nat.le_refl _) (.cells v.arr 27)).alloc (by simp) (.cells itZ.arr 27)))
 rw [HBE.out]
 generalize (w.alloc (.cells v.arr 27)).alloc (.cells itZ.arr 27) = W at *
 clear HV
 have hsz : v.arr.size = 5 := rfl
 go_wp2_with (first | (refine wpList_load_row rfl 27 _ rfl b rfl _ _ _ _ B0.out.box Tryd.underlying27 rfl iSize ?_) | (refine wpList_build_obj rfl 90 _ rfl #[(0, .string nm), (2, .agg v.arr)] rfl _ (atBuild2 _ _ _) ?_))
 refine (layA_any nm 0 v (fun k => F k ∧ k ≠ b + 1) _ hn HV0.out HNZ.out HT.out (fun k hk => ⟨HLO.out k hk, by have := HLT.out k hk; omega⟩) (fun k hk => by have := B0.out.size; exact ⟨HLW.out k (by omega), by omega⟩)).mono ?_
 rintro e w9 ⟨v9, rfl, hvo, hvn, hvf, hvt, hb9⟩
 have B9 := hid (B0.out.below hb9); have HVO := hid hvo; have HVN := hid hvn; have HVF := hid hvf; have HVT := hid hvt
 clear hvo hvn hvf hvt hb9 B0 HV0
 go_wp2_with (refine wpList_store_obj rfl 27 _ _ rfl (b + 1) rfl v9.arr rfl _ _ B9.out.res rfl iSize (arr_one _) ?_; intro w10 hb10 hc10 hs10; have HB10 := hid hb10; have HC10 := hid hc10; clear hb10 hc10 hs10)
 refine bodyPost_ret (results_cell_row rfl _ _ (b + 1) _ _ _ _ rfl HB10.out Tryd.underlying27 rfl iSize) rfl ?_
 exact ⟨v9, rfl, ItV.ok.keep HC10.out HVO.out (fun k hk hm => (HVF.out k hk).2 (List.mem_singleton.1 hm)), HVN.out, (fun k hk => (HVF.out k hk).1), HVT.out, B9.out.done HC10.out⟩
end
end Go.Proofs.YtbnbofooofedkaaDoor
