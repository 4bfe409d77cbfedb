/- locksmithlaw6.tree: an item of raw rows. -/
import Derived.Test.YtmpajhacigjloaaDoorTtlG
import Derived.Test.YtmpajhacigjloaaDoorZeros
import Derived.Test.YtmpajhacigjloaaDoorTtl2
import Derived.Lib.ConvBytes
namespace Go.Proofs.YtmpajhacigjloaaDoor
open Go.RowKit
set_option linter.unusedVariables false
set_option linter.unusedSimpArgs false
set_option maxRecDepth 100000
set_option maxHeartbeats 6400000
/-- A raw item. -/
structure R6 where
  typ : Int := 0
  par : Int := 0
  tag : Int := 0
  n : Int := 0
  da : Option Addr := none
  dn : Nat := 0
  dc : Nat := 0
  dl : List UInt8 := []
  odd : Int := 0
deriving Inhabited
def R6.cells (x : R6) : List Value := [.int .i64 x.typ, .int .i64 x.par, .int .i64 x.tag, .int .i64 x.n, .slice x.da x.dn x.dc, .int .i64 x.odd]
structure R6.ok (w : World) (x : R6) : Prop where
  nb : -9223372036854775808 ≤ x.n ∧ x.n ≤ 9223372036854775807
  rd : RdB w x.da x.dn x.dl
  nc : x.dn ≤ x.dc
  sm : x.dc ≤ 140737488355328
  no : x.da = none → x.dc = 0
theorem R6.ok.below {w w' : World} {x : R6} (h : x.ok w) (hb : Below w.heap.size w w') : x.ok w' := ⟨h.nb, h.rd.below hb, h.nc, h.sm, h.no⟩
/-- Rows that came in. -/
structure R6Args (w : World) (a : Option Addr) (n : Nat) (l : List R6) : Prop where
  len : l.length = n
  sm : n ≤ 140737488355328
  row : ∀ k, k < n → ∃ b off x, a = some ⟨b, off, none⟩ ∧ l[k]? = some x ∧ w.rangeAt b (off + k * 6) x.cells ∧ x.ok w
theorem R6Args.below {w w' : World} {a : Option Addr} {n : Nat} {l : List R6} (h : R6Args w a n l) (hb : Below w.heap.size w w') : R6Args w' a n l :=
  ⟨h.len, h.sm, fun k hk => let ⟨b, off, x, h1, h2, h3, h4⟩ := h.row k hk; ⟨b, off, x, h1, h2, range_later hb h3, h4.below hb⟩⟩
def txt6 : List (List UInt8) := [[], [97, 98, 99], [226, 130, 172], [48, 49, 50, 51, 52, 53, 54, 55, 56, 57]]
def int6 (k n : Int) : Int := if k = 2 then wrap64 (wrap32 n) else if k = 5 ∨ k = 10 then n % 4294967296 else if k = 6 then n % 2 else if k = 3 ∨ k = 9 then n else 0
def pk6 (n : Int) (m : Nat) : Nat := (pick n m).toNat
theorem own_lower6 {w : World} {b b' : Nat} {T : TypeId} {size n : Nat} {v : Value} {xs : List Value} (h : w.ownsRow b T size v n xs) (hb : b' ≤ b) : w.ownsRow b' T size v n xs :=
  ⟨h.1, h.2.imp id (fun ⟨g, cap, cur, h1, h2, h3⟩ => ⟨g, cap, cur, h1, Nat.le_trans hb h2, h3⟩)⟩
theorem pk6_eq (n : Int) (m : Nat) (h : 1 ≤ m) : pick n m = (pk6 n m : Int) := by
  unfold pk6
  have := pick_lo n m (by omega)
  omega
theorem pk6_lt (n : Int) (m : Nat) (h : 1 ≤ m) : pk6 n m < m := by
  have h1 := pick_hi n m (by omega)
  have h2 := pk6_eq n m h
  omega
def dat6 (k : Int) (x : R6) : List UInt8 := if k = 4 then (x.dl.take 16 ++ List.replicate 16 0).take (8 + 8 * pk6 x.odd 2) else if k = 7 then txt6.getD (pk6 x.odd 4) [] else if k = 8 then x.dl.take 30 else []
def leaf6 : Itm := ⟨4325377, 1, 0, [], []⟩
def typ6 (x : R6) (e : Bool) : Int := if e = true then 1 + pick x.typ 10 else 1
/-- The item of a row, its kids made. -/
def mid6 (x : R6) (ks : List Itm) : Itm := ⟨4325376 + pick x.tag 200, typ6 x ks.isEmpty, int6 (typ6 x ks.isEmpty) x.n, dat6 (typ6 x ks.isEmpty) x, ks⟩
def odd6 (x : R6) (i : Itm) : Itm := if pick x.odd 150 = 149 then { i with int := x.n } else if pick x.odd 150 = 148 then { i with data := x.dl.take 9 } else if pick x.odd 150 = 147 then { i with tag := x.tag } else if pick x.odd 150 = 146 then { i with typ := pick x.typ 13 } else i
def sel6 (l : List R6) (a k : Nat) : Bool := decide (a < k) && (decide (k < 30) && (pick (l.getD k default).par k == (a : Int)))
def kids6 (one : Nat → Itm) (l : List R6) (a m : Nat) : List Itm := ((List.range m).filter (sel6 l a)).map one
def tree6 : Nat → List R6 → Nat → Itm
  | 0, _, _ => leaf6
  | g + 1, l, a => if 30 ≤ a then leaf6 else match l[a]? with
    | none => leaf6
    | some x => odd6 x (mid6 x (kids6 (tree6 g l) l a l.length))
theorem mid_it {x : R6} {KS : List Itm} {k0 : Int} {acc : List ItV} (hk : k0 = typ6 x KS.isEmpty) (s : Sl) (hacc : acc.map ItV.it = KS) {z : Int} (hz : z = int6 k0 x.n) {d : List UInt8} (ds : Sl) (hd : d = dat6 k0 x) : ItV.it { tag := 4325376 + pick x.tag 200, typ := k0, int := z, data := d, ds := ds, ks := s, kids := acc } = mid6 x KS := by
  rw [ItV.it_eq]
  unfold mid6
  rw [← hk, hz, hd, hacc]
theorem and1 (n : Int) : bits .and .i64 n 1 = n % 2 := by
  unfold bits
  have e1 : BitVec.ofInt IntKind.i64.bits (1 : Int) = BitVec.ofNat 64 1 := rfl
  rw [e1]
  show IntKind.i64.wrap ((BitVec.ofInt 64 n &&& BitVec.ofNat 64 1).toNat : Int) = _
  rw [BitVec.toNat_and, BitVec.toNat_ofInt, BitVec.toNat_ofNat, show 1 % 2 ^ 64 = 1 from rfl, Nat.and_one_is_mod]
  have h : (((n % (2 ^ 64 : Nat)).toNat % 2 : Nat) : Int) = n % 2 := by
    have h1 : (0 : Int) ≤ n % 18446744073709551616 := Int.emod_nonneg _ (by decide)
    show (((n % 18446744073709551616).toNat % 2 : Nat) : Int) = n % 2
    omega
  rw [h]
  exact IntWalk.i64_in _ (by omega)
theorem kids6_0 (one : Nat → Itm) (l : List R6) (a : Nat) : kids6 one l a (a + 1) = [] := by
  unfold kids6
  rw [List.filter_eq_nil_iff.2]
  · rfl
  · intro k hk
    have := List.mem_range.1 hk
    unfold sel6
    simp
    omega
theorem kids6_s (one : Nat → Itm) (l : List R6) (a k : Nat) : kids6 one l a (k + 1) = if sel6 l a k = true then kids6 one l a k ++ [one k] else kids6 one l a k := by
  unfold kids6
  rw [List.range_succ, List.filter_append, List.map_append]
  by_cases h : sel6 l a k = true
  · rw [if_pos h]; simp [h]
  · rw [if_neg h]; simp [h]
theorem kids6_end (one : Nat → Itm) (l : List R6) (a : Nat) : ∀ (d k : Nat), 30 ≤ k → kids6 one l a (k + d) = kids6 one l a k
  | 0, k, _ => rfl
  | d + 1, k, h => by
    rw [show k + (d + 1) = (k + d) + 1 by omega, kids6_s, if_neg, kids6_end one l a d k h]
    unfold sel6
    simp
    omega
theorem kids6_len (one : Nat → Itm) (l : List R6) (a m : Nat) : (kids6 one l a m).length ≤ m := by
  unfold kids6
  rw [List.length_map]
  have := List.length_filter_le (sel6 l a) (List.range m)
  rwa [List.length_range] at this
theorem bytesW_below (w : World) (e : TypeId) (s : ByteArray) : Below w.heap.size w (Lib.bytesWorld w e s) :=
  ⟨rfl, rfl, rfl, by rw [Lib.bytesWorld_size]; omega, fun k hk => Lib.bytesWorld_at_old w e s k hk⟩
theorem bytesW_slC (w : World) (e : TypeId) (s : ByteArray) (h : s.size ≤ 140737488355328) (c : Nat) (hc : s.size ≤ c) : SlC (Lib.bytesWorld w e s) ⟨some ⟨w.heap.size, 0, none⟩, s.size, c⟩ (s.data.toList.map B8) := by
  refine ⟨⟨by simp, fun j hj => ⟨w.heap.size, 0, rfl, fun i u hu => ?_⟩⟩, by simp, h, fun k hk => ?_, hc⟩
  · rw [List.getElem?_map] at hu
    cases hq : s.data.toList[i]? with
    | none => rw [hq] at hu; cases hu
    | some y =>
      rw [hq] at hu
      simp only [Option.map_some, Option.some.injEq] at hu
      subst hu
      have hi : i < s.size := by have := (List.getElem?_eq_some_iff.1 hq).1; simpa using this
      rw [Nat.zero_add, Lib.bytesWorld_cell w e s i hi, List.getD_eq_getElem?_getD, hq]
      rfl
  · simp [Sl.blk] at hk; rw [hk, Lib.bytesWorld_size]; omega
/-- What tree answers. -/
def TreeRes (I : Itm) (w : World) (e : Ending) (w' : World) : Prop :=
  Below w.heap.size w w' ∧ ∃ v : ItV, e = .returned (.agg v.arr) ∧ v.it = I ∧ v.ok w' ∧ ∀ k ∈ v.foot, w.heap.size ≤ k
/-- While an item is made. -/
structure TrSt (w W : World) (bc bx bi : Nat) (x : R6) (v : ItV) : Prop where
  rs : W.heap[bc]? = some (.cells itZ.arr 29 (0, 0))
  rx : W.heap[bx]? = some (.cells x.cells.toArray 54 (0, 0))
  bl : W.heap[bi]? = some (.cells v.arr 29 (0, 0))
  own : OwnIt 29 W (bi + 1) (bi + 1) v.ks v.kids
  kn : v.ks.n ≤ 30
  dt : SlC W v.ds (v.data.map B8)
  df : ∀ k ∈ v.ds.blk, bi < k
  bel : Below bc w W
  eb : bc = w.heap.size
  o1 : bc < bx
  o2 : bx < bi
section
variable {w W W' : World} {bc bx bi : Nat} {x : R6} {v : ItV}
theorem TrSt.below (h : TrSt w W bc bx bi x v) (hb : Below W.heap.size W W') : TrSt w W' bc bx bi x v :=
  ⟨(hb.block _ (block_lt h.rs)).trans h.rs, (hb.block _ (block_lt h.rx)).trans h.rx, (hb.block _ (block_lt h.bl)).trans h.bl, h.own.below hb, h.kn, h.dt.below hb, h.df, h.bel.trans (hb.mono (Nat.le_of_lt (block_lt h.rs))), h.eb, h.o1, h.o2⟩
/-- Blocks behind it change. -/
theorem TrSt.grown (h : TrSt w W bc bx bi x v) (hds : v.ds = {}) {r : Option Nat} (hg : W.grownBy W' r) (hr : ∀ q, r = some q → bi < q ∧ v.ks.v.ownBlock ≠ some q ∧ ∀ y ∈ v.kids, q ∉ y.foot) : TrSt w W' bc bx bi x v := by
  have hc : Chg r.toList W W' := (Chg.refl _ W).grown hg (fun k hk => .inl (by rw [hk]; simp))
  have hm : ∀ k ∈ r.toList, r = some k := fun k hk => by
    cases r with
    | none => cases hk
    | some q => simp at hk; rw [hk]
  have h1 := h.o1; have h2 := h.o2
  refine ⟨(hc.block _ (block_lt h.rs) (fun hk => by have := (hr _ (hm _ hk)).1; omega)).trans h.rs, (hc.block _ (block_lt h.rx) (fun hk => by have := (hr _ (hm _ hk)).1; omega)).trans h.rx, (hc.block _ (block_lt h.bl) (fun hk => by have := (hr _ (hm _ hk)).1; omega)).trans h.bl, h.own.chg hc (fun k hk hk2 => (hr k (hm k hk2)).2.1 hk) (fun y hy k hk hk2 => (hr k (hm k hk2)).2.2 y hy hk), h.kn, h.dt.keep hc (fun k hk _ => by rw [hds] at hk; simp [Sl.blk] at hk), h.df, h.bel.trans (hc.below (fun k hk => by have := (hr k (hm k hk)).1; omega) (Nat.le_of_lt (block_lt h.rs))), h.eb, h.o1, h.o2⟩
theorem TrSt.foot (h : TrSt w W bc bx bi x v) : ∀ k ∈ v.foot, bi < k := fun k hk => by
  rcases ItV.mem_foot.1 hk with h' | h' | ⟨y, hy, h'⟩
  · exact h.df k h'
  · exact h.own.blk k h'
  · exact h.own.low y hy k h'
theorem TrSt.ok (h : TrSt w W bc bx bi x v) : v.ok W := ItV.ok_iff.2 ⟨h.dt, h.own.sl (by have := h.kn; omega), h.own.ok⟩
theorem TrSt.chg (h : TrSt w W bc bx bi x v) (hc : Chg [bi] W W') : OwnIt 29 W' (bi + 1) (bi + 1) v.ks v.kids ∧ W'.heap[bc]? = some (.cells itZ.arr 29 (0, 0)) ∧ W'.heap[bx]? = some (.cells x.cells.toArray 54 (0, 0)) ∧ Below bc w W' := by
  have h1 := h.o1; have h2 := h.o2
  refine ⟨h.own.chg hc (fun k hk hm => by have := (h.own.own.lt k hk).1; have := List.mem_singleton.1 hm; omega) (fun y hy k hk hm => by have := h.own.low y hy k hk; have := List.mem_singleton.1 hm; omega), (hc.block _ (block_lt h.rs) (by simp; omega)).trans h.rs, (hc.block _ (block_lt h.rx) (by simp; omega)).trans h.rx, h.bel.trans (hc.below (fun k hk => by rw [List.mem_singleton.1 hk]; omega) (Nat.le_of_lt (block_lt h.rs)))⟩
/-- A number of it is set. -/
theorem TrSt.set (h : TrSt w W bc bx bi x v) (j : Nat) (u : Value) (v' : ItV) (hv : v.arr.setIfInBounds j u = v'.arr) (hks : v'.ks = v.ks) (hkd : v'.kids = v.kids) (hds : v'.ds = v.ds) (hdd : v'.data = v.data) : TrSt w (W.setCell ⟨bi, j, none⟩ u) bc bx bi x v' := by
  have hc : Chg [bi] W (W.setCell ⟨bi, j, none⟩ u) := (Chg.refl [bi] W).setCell (.inl (by simp)) _
  obtain ⟨h1, h2, h3, h4⟩ := h.chg hc
  refine ⟨h2, h3, ?_, ?_, by rw [hks]; exact h.kn, ?_, by rw [hds]; exact h.df, h4, h.eb, h.o1, h.o2⟩
  · rw [← hv]; exact block_setCell h.bl u
  · rw [hks, hkd]; exact h1
  · rw [hds, hdd]; exact h.dt.keep hc (fun k hk hm => by have := h.df k hk; have := List.mem_singleton.1 hm; omega)
theorem TrSt.setInt (h : TrSt w W bc bx bi x v) (z : Int) : TrSt w (W.setCell ⟨bi, 2, none⟩ (.int .i64 z)) bc bx bi x { v with int := z } := h.set 2 _ _ rfl rfl rfl rfl rfl
theorem TrSt.setTyp (h : TrSt w W bc bx bi x v) (z : Int) : TrSt w (W.setCell ⟨bi, 1, none⟩ (.int .i64 z)) bc bx bi x { v with typ := z } := h.set 1 _ _ rfl rfl rfl rfl rfl
theorem TrSt.setTag (h : TrSt w W bc bx bi x v) (z : Int) : TrSt w (W.setCell ⟨bi, 0, none⟩ (.int .i64 z)) bc bx bi x { v with tag := z } := h.set 0 _ _ rfl rfl rfl rfl rfl
/-- Its data are set. -/
theorem TrSt.setData (h : TrSt w W bc bx bi x v) {a : Option Addr} {n c : Nat} {l : List UInt8} (hs : SlC W ⟨a, n, c⟩ (l.map B8)) (hf : ∀ k ∈ (⟨a, n, c⟩ : Sl).blk, bi < k) : TrSt w (W.setCell ⟨bi, 3, none⟩ (.slice a n c)) bc bx bi x { v with data := l, ds := ⟨a, n, c⟩ } := by
  have hc : Chg [bi] W (W.setCell ⟨bi, 3, none⟩ (.slice a n c)) := (Chg.refl [bi] W).setCell (.inl (by simp)) _
  obtain ⟨h1, h2, h3, h4⟩ := h.chg hc
  exact ⟨h2, h3, block_setCell (j := 3) h.bl _, h1, h.kn, hs.keep hc (fun k hk hm => by have := hf k hk; have := List.mem_singleton.1 hm; omega), hf, h4, h.eb, h.o1, h.o2⟩
/-- A kid more. -/
theorem TrSt.push (h : TrSt w W bc bx bi x v) (hds : v.ds = {}) {y : ItV} {a : Option Addr} {n c : Nat} (hy : y.ok W) (hyf : ∀ k ∈ y.foot, bi < k) (hya : ∀ k ∈ y.foot, v.ks.v.ownBlock ≠ some k) (hn : n ≤ 30) (ho : W'.ownsRow (bi + 1) 29 5 (.slice a n c) n (itmCells (v.kids ++ [y]))) (hg : W.grownBy W' v.ks.v.ownBlock)
    (hf : (Value.slice a n c).ownBlock = v.ks.v.ownBlock ∨ ∀ k, (Value.slice a n c).ownBlock = some k → W.heap.size ≤ k) : TrSt w (W'.setCell ⟨bi, 4, none⟩ (.slice a n c)) bc bx bi x { v with ks := ⟨a, n, c⟩, kids := v.kids ++ [y] } := by
  have ho1 := h.o1; have ho2 := h.o2
  have hob : ∀ k, v.ks.v.ownBlock = some k → bi < k ∧ k < W.heap.size := fun k hk => ⟨(h.own.own.lt k hk).1, (h.own.own.lt k hk).2⟩
  have hc1 : Chg v.ks.v.ownBlock.toList W W' := (Chg.refl _ W).grown hg (fun k hk => .inl (by rw [hk]; simp))
  have hmem : ∀ k ∈ v.ks.v.ownBlock.toList, bi < k := fun k hk => by
    cases hv : v.ks.v.ownBlock with
    | none => rw [hv] at hk; cases hk
    | some q => rw [hv] at hk; simp at hk; rw [hk]; exact (hob q hv).1
  have hc2 : Chg [bi] W' (W'.setCell ⟨bi, 4, none⟩ (.slice a n c)) := (Chg.refl [bi] W').setCell (.inl (by simp)) _
  have hbi : W'.heap[bi]? = some (.cells v.arr 29 (0, 0)) := (hc1.block _ (block_lt h.bl) (fun hm => by have := hmem bi hm; omega)).trans h.bl
  have hc : Chg (bi :: v.ks.v.ownBlock.toList) W (W'.setCell ⟨bi, 4, none⟩ (.slice a n c)) := (hc1.mono (fun q hq => List.mem_cons_of_mem _ hq)).trans hc2 (fun q hq => by rw [List.mem_singleton.1 hq]; exact .inl (by simp))
  have hlow : ∀ k ∈ bi :: v.ks.v.ownBlock.toList, bi ≤ k := fun k hk => by
    rcases List.mem_cons.1 hk with h' | h'
    · omega
    · have := hmem k h'; omega
  have hall : ∀ z ∈ v.kids ++ [y], z.ok W ∧ (∀ k ∈ z.foot, bi < k) ∧ ∀ k ∈ z.foot, v.ks.v.ownBlock ≠ some k := fun z hz => by
    rcases List.mem_append.1 hz with h' | h'
    · exact ⟨h.own.ok z h', h.own.low z h', h.own.apart z h'⟩
    · rw [List.mem_singleton.1 h']; exact ⟨hy, hyf, hya⟩
  refine ⟨(hc.block _ (block_lt h.rs) (fun hm => by have := hlow bc hm; omega)).trans h.rs, (hc.block _ (block_lt h.rx) (fun hm => by have := hlow bx hm; omega)).trans h.rx, block_setCell (j := 4) hbi _, ⟨hc2.owns ho (fun k hk hm => ?_), fun z hz => ?_, fun z hz k hk he => ?_, fun z hz => (hall z hz).2.1⟩, hn, h.dt.keep hc (fun k hk hm => ?_), h.df, h.bel.trans (hc.below (fun k hk => by have := hlow k hk; omega) (Nat.le_of_lt (block_lt h.rs))), h.eb, h.o1, h.o2⟩
  · have h1 := (ho.lt k hk).1; have h2 := List.mem_singleton.1 hm; omega
  · refine ItV.ok.keep hc (hall z hz).1 (fun k hk hm => ?_)
    rcases List.mem_cons.1 hm with h' | h'
    · have := (hall z hz).2.1 k hk; omega
    · cases hv : v.ks.v.ownBlock with
      | none => rw [hv] at h'; cases h'
      | some q =>
        rw [hv] at h'
        simp at h'
        subst h'
        exact (hall z hz).2.2 k hk hv
  · rcases hf with h' | h'
    · exact (hall z hz).2.2 k hk (by rw [← h']; exact he)
    · have h1 := h' k he
      have h2 := (hall z hz).1.lt k hk
      omega
  · rw [hds] at hk; simp [Sl.blk] at hk
end
theorem iBuildL (t k : Int) (w : World) : (Instr.build 29 #[(0, .int .i64 t), (1, .int .i64 k)]).run Tryd.prog w = .ok (.agg (ItV.arr { tag := t, typ := k })) w := by kernel_rfl
theorem r6Sz : (Tryd.prog.info? 54).map (·.size) = some 6 := by kernel_rfl
theorem r6Zero : (Tryd.prog.info? 54).map (·.zero) = some (some (.agg (R6.cells {}).toArray)) := by kernel_rfl
theorem r6_one (x : R6) : x.cells.toArray.all (·.oneCell') = true := by simp [R6.cells, Value.oneCell']
def stNew6 (lo : Nat) : St Grow := ⟨fun v w => ∃ p, v = .pointer (some ⟨p, 0, none⟩) ∧ w.heap[p]? = some (.cells itZ.arr 29 (0, 0)) ∧ lo ≤ p, fun v w w' h hg => let ⟨p, e, h1, h2⟩ := h; ⟨p, e, (hg.block _ (block_lt h1)).trans h1, h2⟩⟩
def stMade6 (I : Itm) (lo : Nat) : St Grow := ⟨fun v w => ∃ y : ItV, v = .agg y.arr ∧ y.it = I ∧ y.ok w ∧ ∀ k ∈ y.foot, lo ≤ k, fun v w w' h hg => let ⟨y, e, h1, h2, h3⟩ := h; ⟨y, e, h1, h2.below hg, h3⟩⟩
def stOne6 (I : Itm) (lo : Nat) : St Grow := ⟨fun v w => ∃ (y : ItV) (q : Nat), v = .slice (some ⟨q, 0, none⟩) 1 1 ∧ w.heap[q]? = some (.cells y.arr 29 (0, 0)) ∧ y.it = I ∧ y.ok w ∧ ∀ k ∈ y.foot, lo ≤ k, fun v w w' h hg => let ⟨y, q, e, h0, h1, h2, h3⟩ := h; ⟨y, q, e, (hg.block _ (block_lt h0)).trans h0, h1, h2.below hg, h3⟩⟩
def stOwn6 (lo : Nat) (L : List UInt8) : St Grow := ⟨fun v w => ∃ (a : Option Addr) (n c : Nat), v = .slice a n c ∧ w.ownsRow lo 5 1 (.slice a n c) n (L.map B8) ∧ lo ≤ w.heap.size, fun v w w' h hg => let ⟨a, n, c, e, h1, h2⟩ := h; ⟨a, n, c, e, (Chg.of_below hg []).owns h1 (fun _ _ hm => by cases hm), Nat.le_trans h2 hg.size⟩⟩
def stDat6 (lo : Nat) (L : List UInt8) : St Grow := ⟨fun v w => ∃ (a : Option Addr) (n c : Nat), v = .slice a n c ∧ SlC w ⟨a, n, c⟩ (L.map B8) ∧ ∀ k ∈ (⟨a, n, c⟩ : Sl).blk, lo ≤ k, fun v w w' h hg => let ⟨a, n, c, e, h1, h2⟩ := h; ⟨a, n, c, e, h1.below hg, h2⟩⟩
theorem strs6_get (k : Nat) (h : k < 4) : (#[Value.string ⟨#[]⟩, .string ⟨#[97, 98, 99]⟩, .string ⟨#[226, 130, 172]⟩, .string ⟨#[48, 49, 50, 51, 52, 53, 54, 55, 56, 57]⟩] : Array Value)[k]? = some (.string ⟨(txt6.getD k []).toArray⟩) := by
  match k, h with
  | 0, _ => rfl
  | 1, _ => rfl
  | 2, _ => rfl
  | 3, _ => rfl
theorem txt6_len (k : Nat) (h : k < 4) : (txt6.getD k []).length ≤ 10 := by
  match k, h with
  | 0, _ => decide
  | 1, _ => decide
  | 2, _ => decide
  | 3, _ => decide
theorem sizeStr6 : ∀ w : World, (sizeOf 9).run Tryd.prog w = .ok 1 w := fun w => by kernel_rfl
theorem wp_append_zeros {w : World} {o : Oper} {a : Act} {K : Act → World → Prop} {Q : Exit → Act → World → Prop} (s x : Operand) (t tn : TypeId)
    (ho : o.op = .call { callee := .builtin .append, args := #[s, x], argTypes := #[t, tn] })
    (base : Nat) (e : TypeId) (i : TypeInfo) (kn k : IntKind) (ht : Tryd.prog.underlying t = some (.slice e)) (htn : Tryd.prog.underlying tn = some (.int kn)) (hi : Tryd.prog.info? e = some i) (hz : i.zero = some (.int .u8 0))
    (hsize : i.size = 1) (hby : i.bytes = 1) (v : Value) (n : Nat) (xs : List UInt8) (hs : a.eval s = v) (hown : w.ownsRow base e 1 v n (xs.map B8))
    (m : Nat) (hx : a.eval x = .int k m) (hbytes : n + m ≤ 140737488355328) (hbase : base ≤ w.heap.size)
    (h : ∀ a' c' w', w'.ownsRow base e 1 (.slice a' (n + m) c') (n + m) ((xs ++ List.replicate m 0).map B8) → w.grownBy w' v.ownBlock → K (a.put o.dst (.slice a' (n + m) c')) w') : o.wp Tryd.prog a w K Q := by
  obtain ⟨v', w', hrun, h2, h3⟩ := run_append_zeros (P := Tryd.prog) w base t tn o.type e i kn k ht htn hi hz hsize hby v n xs hown m hbytes hbase
  have hv : ∃ a' c', v' = .slice a' (n + m) c' := by
    rcases h2.2 with ⟨hv, h0⟩ | ⟨g, cap, cur, hv, _⟩
    · exact ⟨none, 0, by rw [hv, h0]⟩
    · exact ⟨_, _, hv⟩
  obtain ⟨a', c', rfl⟩ := hv
  unfold Oper.wp execOp
  simp only [ho, resolve, invoke, builtin, Sem.run_bind, Sem.run_pure, Result.andThen_ok, List.map_toArray, List.map_cons, List.map_nil, hs, hx, hrun]
  exact h a' c' w' h2 h3
/-- What the loop over the rows knows. -/
structure T6St (one : Nat → Itm) (l : List R6) (a : Nat) (w : World) (bc bx bi : Nat) (x : R6) (y7 y8 : Value) (wr : World) : Prop where
  ex : ∃ (k : Nat) (s : Sl) (acc : List ItV), y8 = .int .i64 k ∧ y7 = .bool (!acc.isEmpty) ∧ a + 1 ≤ k ∧ (k ≤ l.length ∨ k = a + 1) ∧ k ≤ 30 ∧ acc.map ItV.it = kids6 one l a k ∧ TrSt w wr bc bx bi x { tag := 4325376 + pick x.tag 200, typ := 1 + pick x.typ 10, ks := s, kids := acc }
theorem tree_any (aL : Option Addr) (nL cL : Nat) (l : List R6) : ∀ (g a : Nat) (w : World), 30 ≤ a + g → R6Args w aL nL l →
    Calls Tryd.prog 12 #[.slice aL nL cL, .int .i64 a] w (TreeRes (tree6 g l a) w) := by
  intro g
  induction g with
  | zero =>
    intro a w hag hal
    have h30 : (30 : Int) ≤ (a : Int) := by omega
    have HD : Hid (tree6 0 l a = leaf6) := rfl
    clear hag
    have hb0 : Below w.heap.size w (w.alloc (.cells itZ.arr 29)) := (Below.refl _ _).alloc (Nat.le_refl _) _
    have HRS := hid (block_new w (.cells itZ.arr 29))
    have HB := hid hb0
    have HAL := hid hal
    obtain ⟨b, hbe⟩ : ∃ b, b = w.heap.size := ⟨_, rfl⟩
    have HBE := hid hbe
    have HLN := hid hal.len
    clear hb0 hal
    go_enter Tryd.func12, Tryd.ntmps12
    go_upto_region 1 with (refine wpList_alloc_obj rfl 29 rfl _ iZero ?_)
    go_simp
    rw [← hbe] at HRS ⊢
    clear hbe
    generalize w.alloc (.cells itZ.arr 29) = W at *
    by_cases h1 : nL ≤ a
    · have h1z : (nL : Int) ≤ (a : Int) := by omega
      clear h1
      go_wp2_with (first | (refine wpList_build_obj rfl 29 _ rfl #[(0, .int .i64 4325377), (1, .int .i64 1)] rfl _ (iBuildL 4325377 1 _) ?_) | (refine wpList_store_obj rfl 29 _ _ rfl b rfl (ItV.arr { tag := 4325377, typ := 1 }) rfl _ _ HRS.out rfl iSize (arr_one _) ?_; intro w10 hb10 hc10 hs10; have HB10 := hid hb10; have HC10 := hid hc10; clear hb10 hc10 hs10))
      refine bodyPost_ret (results_cell_row rfl _ _ b _ _ _ _ rfl HB10.out Tryd.underlying29 rfl iSize) rfl ?_
      unfold TreeRes
      rw [HD.out]
      refine ⟨HB.out.trans (HC10.out.below (fun k hk => by rw [List.mem_singleton.1 hk]; have := HBE.out; omega) HB.out.size), { tag := 4325377, typ := 1 }, rfl, by rw [ItV.it_eq]; rfl, ItV.ok_iff.2 ⟨SlC.nil _, SlR.nil _ _, fun x hx => by cases hx⟩, fun k hk => ?_⟩
      rcases ItV.mem_foot.1 hk with h | h | ⟨y, hy, h⟩
      · simp [Sl.blk] at h
      · simp [Sl.blk] at h
      · cases hy
    · have h1z : ¬ (nL : Int) ≤ (a : Int) := by omega
      clear h1
      go_wp2_with (first | (refine wpList_build_obj rfl 29 _ rfl #[(0, .int .i64 4325377), (1, .int .i64 1)] rfl _ (iBuildL 4325377 1 _) ?_) | (refine wpList_store_obj rfl 29 _ _ rfl b rfl (ItV.arr { tag := 4325377, typ := 1 }) rfl _ _ HRS.out rfl iSize (arr_one _) ?_; intro w10 hb10 hc10 hs10; have HB10 := hid hb10; have HC10 := hid hc10; clear hb10 hc10 hs10))
      refine bodyPost_ret (results_cell_row rfl _ _ b _ _ _ _ rfl HB10.out Tryd.underlying29 rfl iSize) rfl ?_
      unfold TreeRes
      rw [HD.out]
      refine ⟨HB.out.trans (HC10.out.below (fun k hk => by rw [List.mem_singleton.1 hk]; have := HBE.out; omega) HB.out.size), { tag := 4325377, typ := 1 }, rfl, by rw [ItV.it_eq]; rfl, ItV.ok_iff.2 ⟨SlC.nil _, SlR.nil _ _, fun x hx => by cases hx⟩, fun k hk => ?_⟩
      rcases ItV.mem_foot.1 hk with h | h | ⟨y, hy, h⟩
      · simp [Sl.blk] at h
      · simp [Sl.blk] at h
      · cases hy
  | succ g ih =>
    intro a w hag hal
    by_cases h30 : 30 ≤ a
    · have h30z : (30 : Int) ≤ (a : Int) := by omega
      have HD : Hid (tree6 (g + 1) l a = leaf6) := by show _ = _; rw [tree6, if_pos h30]
      clear hag h30 ih
      have hb0 : Below w.heap.size w (w.alloc (.cells itZ.arr 29)) := (Below.refl _ _).alloc (Nat.le_refl _) _
      have HRS := hid (block_new w (.cells itZ.arr 29))
      have HB := hid hb0
      have HAL := hid hal
      obtain ⟨b, hbe⟩ : ∃ b, b = w.heap.size := ⟨_, rfl⟩
      have HBE := hid hbe
      have HLN := hid hal.len
      clear hb0 hal
      go_enter Tryd.func12, Tryd.ntmps12
      go_upto_region 1 with (refine wpList_alloc_obj rfl 29 rfl _ iZero ?_)
      go_simp
      rw [← hbe] at HRS ⊢
      clear hbe
      generalize w.alloc (.cells itZ.arr 29) = W at *
      by_cases h1 : nL ≤ a
      · have h1z : (nL : Int) ≤ (a : Int) := by omega
        clear h1
        go_wp2_with (first | (refine wpList_build_obj rfl 29 _ rfl #[(0, .int .i64 4325377), (1, .int .i64 1)] rfl _ (iBuildL 4325377 1 _) ?_) | (refine wpList_store_obj rfl 29 _ _ rfl b rfl (ItV.arr { tag := 4325377, typ := 1 }) rfl _ _ HRS.out rfl iSize (arr_one _) ?_; intro w10 hb10 hc10 hs10; have HB10 := hid hb10; have HC10 := hid hc10; clear hb10 hc10 hs10))
        refine bodyPost_ret (results_cell_row rfl _ _ b _ _ _ _ rfl HB10.out Tryd.underlying29 rfl iSize) rfl ?_
        unfold TreeRes
        rw [HD.out]
        refine ⟨HB.out.trans (HC10.out.below (fun k hk => by rw [List.mem_singleton.1 hk]; have := HBE.out; omega) HB.out.size), { tag := 4325377, typ := 1 }, rfl, by rw [ItV.it_eq]; rfl, ItV.ok_iff.2 ⟨SlC.nil _, SlR.nil _ _, fun x hx => by cases hx⟩, fun k hk => ?_⟩
        rcases ItV.mem_foot.1 hk with h | h | ⟨y, hy, h⟩
        · simp [Sl.blk] at h
        · simp [Sl.blk] at h
        · cases hy
      · have h1z : ¬ (nL : Int) ≤ (a : Int) := by omega
        clear h1
        go_wp2_with (first | (refine wpList_build_obj rfl 29 _ rfl #[(0, .int .i64 4325377), (1, .int .i64 1)] rfl _ (iBuildL 4325377 1 _) ?_) | (refine wpList_store_obj rfl 29 _ _ rfl b rfl (ItV.arr { tag := 4325377, typ := 1 }) rfl _ _ HRS.out rfl iSize (arr_one _) ?_; intro w10 hb10 hc10 hs10; have HB10 := hid hb10; have HC10 := hid hc10; clear hb10 hc10 hs10))
        refine bodyPost_ret (results_cell_row rfl _ _ b _ _ _ _ rfl HB10.out Tryd.underlying29 rfl iSize) rfl ?_
        unfold TreeRes
        rw [HD.out]
        refine ⟨HB.out.trans (HC10.out.below (fun k hk => by rw [List.mem_singleton.1 hk]; have := HBE.out; omega) HB.out.size), { tag := 4325377, typ := 1 }, rfl, by rw [ItV.it_eq]; rfl, ItV.ok_iff.2 ⟨SlC.nil _, SlR.nil _ _, fun x hx => by cases hx⟩, fun k hk => ?_⟩
        rcases ItV.mem_foot.1 hk with h | h | ⟨y, hy, h⟩
        · simp [Sl.blk] at h
        · simp [Sl.blk] at h
        · cases hy
    have h30z : ¬ (30 : Int) ≤ (a : Int) := by omega
    by_cases h1 : nL ≤ a
    · have h1z : (nL : Int) ≤ (a : Int) := by omega
      have HD : Hid (tree6 (g + 1) l a = leaf6) := by show _ = _; rw [tree6, if_neg h30, List.getElem?_eq_none (by have := hal.len; omega)]
      clear hag h30 ih h1
      have hb0 : Below w.heap.size w (w.alloc (.cells itZ.arr 29)) := (Below.refl _ _).alloc (Nat.le_refl _) _
      have HRS := hid (block_new w (.cells itZ.arr 29))
      have HB := hid hb0
      have HAL := hid hal
      obtain ⟨b, hbe⟩ : ∃ b, b = w.heap.size := ⟨_, rfl⟩
      have HBE := hid hbe
      have HLN := hid hal.len
      clear hb0 hal
      go_enter Tryd.func12, Tryd.ntmps12
      go_upto_region 1 with (refine wpList_alloc_obj rfl 29 rfl _ iZero ?_)
      go_simp
      rw [← hbe] at HRS ⊢
      clear hbe
      generalize w.alloc (.cells itZ.arr 29) = W at *
      go_wp2_with (first | (refine wpList_build_obj rfl 29 _ rfl #[(0, .int .i64 4325377), (1, .int .i64 1)] rfl _ (iBuildL 4325377 1 _) ?_) | (refine wpList_store_obj rfl 29 _ _ rfl b rfl (ItV.arr { tag := 4325377, typ := 1 }) rfl _ _ HRS.out rfl iSize (arr_one _) ?_; intro w10 hb10 hc10 hs10; have HB10 := hid hb10; have HC10 := hid hc10; clear hb10 hc10 hs10))
      refine bodyPost_ret (results_cell_row rfl _ _ b _ _ _ _ rfl HB10.out Tryd.underlying29 rfl iSize) rfl ?_
      unfold TreeRes
      rw [HD.out]
      refine ⟨HB.out.trans (HC10.out.below (fun k hk => by rw [List.mem_singleton.1 hk]; have := HBE.out; omega) HB.out.size), { tag := 4325377, typ := 1 }, rfl, by rw [ItV.it_eq]; rfl, ItV.ok_iff.2 ⟨SlC.nil _, SlR.nil _ _, fun x hx => by cases hx⟩, fun k hk => ?_⟩
      rcases ItV.mem_foot.1 hk with h | h | ⟨y, hy, h⟩
      · simp [Sl.blk] at h
      · simp [Sl.blk] at h
      · cases hy
    have h1z : ¬ (nL : Int) ≤ (a : Int) := by omega
    obtain ⟨bL, oL, x, hax, hx, hrow, hxok⟩ := hal.row a (by omega)
    subst hax
    have HD : Hid (tree6 (g + 1) l a = odd6 x (mid6 x (kids6 (tree6 g l) l a l.length))) := by show _ = _; rw [tree6, if_neg h30, hx]
    have IH := hid (fun (k : Nat) (hk : a < k) (w : World) (h : R6Args w (some ⟨bL, oL, none⟩) nL l) => ih k w (by omega) h)
    have H30 := hid h30
    have HROW0 := hid hrow; have HXW := hid hxok
    clear hag h30 ih hrow hxok hx
    have hb0 : Below w.heap.size w (w.alloc (.cells itZ.arr 29)) := (Below.refl _ _).alloc (Nat.le_refl _) _
    have HRS := hid (block_new w (.cells itZ.arr 29))
    have HB := hid hb0
    have HAL := hid hal
    obtain ⟨b, hbe⟩ : ∃ b, b = w.heap.size := ⟨_, rfl⟩
    have HBE := hid hbe
    have HLN := hid hal.len
    clear hb0 hal
    go_enter Tryd.func12, Tryd.ntmps12
    go_upto_region 1 with (refine wpList_alloc_obj rfl 29 rfl _ iZero ?_)
    go_simp
    rw [← hbe] at HRS ⊢
    clear hbe
    generalize w.alloc (.cells itZ.arr 29) = W at *
    have HROW := hid (range_later HB.out HROW0.out)
    clear HROW0
    go_upto_region 4 with (first | (refine wpList_load_mid rfl 54 _ rfl bL (oL + a * 6) rfl x.cells _ HROW.out Tryd.underlying54 rfl r6Sz ?_) | (refine wpList_alloc_obj rfl 54 rfl _ r6Zero ?_) | (refine wpList_store_obj rfl 54 _ _ rfl W.heap.size rfl _ rfl _ _ (block_new W _) rfl r6Sz (r6_one x) ?_; intro w5 hb5 hc5 hs5; have HRX := hid hb5; have HC5 := hid hc5; clear hb5 hc5 hs5))
    have hbel : Below W.heap.size W w5 := ((Below.refl _ W).alloc (Nat.le_refl _) _).trans (HC5.out.below (fun k hk => by rw [List.mem_singleton.1 hk]; exact Nat.le_refl _) (by simp))
    have HRS5 := hid ((hbel.block _ (block_lt HRS.out)).trans HRS.out)
    have HB5 := hid (HB.out.trans (Below.mono hbel HB.out.size))
    obtain ⟨bx, hbx⟩ : ∃ bx, bx = W.heap.size := ⟨_, rfl⟩
    have HO1 : Hid (b < bx) := by rw [hbx]; exact block_lt HRS.out
    rw [← hbx] at HRX ⊢
    clear hbel HC5 HRS HB HROW hbx
    have p1 := pick_lo x.tag 200 (by omega); have p2 := pick_hi x.tag 200 (by omega)
    have p3 := pick_lo x.typ 10 (by omega); have p4 := pick_hi x.typ 10 (by omega)
    have HW1 : Hid (IntKind.i64.wrap (4325376 + pick x.tag 200) = 4325376 + pick x.tag 200) := IntWalk.i64_in _ (by omega)
    have HW2 : Hid (IntKind.i64.wrap (1 + pick x.typ 10) = 1 + pick x.typ 10) := IntWalk.i64_in _ (by omega)
    have HTY := hid (And.intro p3 p4)
    clear p1 p2 p3 p4
    have S : Hid (w5.heap[bx]? = some (.cells x.cells.toArray 54 (0, 0))) := HRX
    refine wp_region_each 10 [.eq (.pointer (some ⟨bx, 2, none⟩)), .eq (.int .i64 x.tag), .eq (.int .i64 (pick x.tag 200)), .eq (.int .i64 (4325376 + pick x.tag 200)), .eq (.pointer (some ⟨bx, 0, none⟩)), .eq (.int .i64 x.typ), .eq (.int .i64 (pick x.typ 10)), .eq (.int .i64 (1 + pick x.typ 10)), .eq (.agg (ItV.arr { tag := 4325376 + pick x.tag 200, typ := 1 + pick x.typ 10 })), stNew6 w5.heap.size] (by kernel_rfl) (by kernel_rfl) (by kernel_rfl) (by kernel_rfl) ?_ ?_
    · all_goals
        refine each_5 ?_ ?_ ?_ ?_ ?_ (each_5 ?_ ?_ ?_ ?_ ?_ (each_n))
        · intro w1 hg Ar seen
          have s5 := seen.sl 5 (.pointer (some ⟨bx, 0, none⟩))
          refine does_plain rfl fun K Q' hK => ?_
          go_simp; exact hK _ _ (Grow.refl _) rfl
        · intro w1 hg Ar seen
          have e0 := seen.de 0 22
          refine does_plain rfl fun K Q' hK => ?_
          have hc := cell_of_block (j := 2) ((hg.block _ (block_lt S.out)).trans S.out) rfl
          go_simp; exact hK _ _ (Grow.refl _) rfl
        · intro w1 hg Ar seen
          have e1 := seen.de 1 23
          refine does_plain rfl fun K Q' hK => ?_
          go_simp
          refine (pick_any x.tag 200 _ (by omega) (by omega)).mono ?_
          rintro e u ⟨rfl, rfl⟩
          exact hK _ _ (Grow.refl _) rfl
        · intro w1 hg Ar seen
          have e2 := seen.de 2 24
          refine does_plain rfl fun K Q' hK => ?_
          have hs := HW1.out
          go_simp; exact hK _ _ (Grow.refl _) rfl
        · intro w1 hg Ar seen
          have s5 := seen.sl 5 (.pointer (some ⟨bx, 0, none⟩))
          refine does_plain rfl fun K Q' hK => ?_
          go_simp; exact hK _ _ (Grow.refl _) rfl
        · intro w1 hg Ar seen
          have e4 := seen.de 4 26
          refine does_plain rfl fun K Q' hK => ?_
          have hc := cell_of_block (j := 0) ((hg.block _ (block_lt S.out)).trans S.out) rfl
          go_simp; exact hK _ _ (Grow.refl _) rfl
        · intro w1 hg Ar seen
          have e5 := seen.de 5 27
          refine does_plain rfl fun K Q' hK => ?_
          go_simp
          refine (pick_any x.typ 10 _ (by omega) (by omega)).mono ?_
          rintro e u ⟨rfl, rfl⟩
          exact hK _ _ (Grow.refl _) rfl
        · intro w1 hg Ar seen
          have e6 := seen.de 6 28
          refine does_plain rfl fun K Q' hK => ?_
          have hs := HW2.out
          go_simp; exact hK _ _ (Grow.refl _) rfl
        · intro w1 hg Ar seen
          have e3 := seen.de 3 25
          have e7 := seen.de 7 29
          refine does_plain rfl fun K Q' hK => ?_
          refine wp_build_obj 29 _ rfl #[(0, .int .i64 (4325376 + pick x.tag 200)), (1, .int .i64 (1 + pick x.typ 10))] (by simp [Act.eval, e3, e7]) _ (iBuildL _ _ _) ?_
          exact hK _ _ (Grow.refl _) rfl
        · intro w1 hg Ar seen
          refine does_plain rfl fun K Q' hK => ?_
          refine wp_alloc_obj 29 rfl _ iZero ?_
          exact hK _ _ ((Below.refl _ _).alloc (Nat.le_refl _) _) ⟨_, rfl, block_new _ _, hg.size⟩
    intro w1 hg
    refine upon_w' (js := [0, 1, 2, 3, 4, 5, 6, 7, 8, 9]) (by rfl) ?_
    refine upon_e (some 22) (upon_e (some 23) (upon_e (some 24) (upon_e (some 25) (upon_e (some 26) (upon_e (some 27) (upon_e (some 28) (upon_e (some 29) (upon_e (some 30) (upon_v (some 6) fun v9 h9 => upon_n ?_)))))))))
    obtain ⟨bi, rfl, hbi, hlo⟩ := h9
    have HBI := hid hbi
    have HO2 : Hid (bx < bi) := Nat.lt_of_lt_of_le (block_lt HRX.out) hlo
    have HRS6 := hid ((hg.block _ (block_lt HRS5.out)).trans HRS5.out)
    have HRX6 := hid ((hg.block _ (block_lt HRX.out)).trans HRX.out)
    have HB6 := hid (HB5.out.trans (Below.mono hg HB5.out.size))
    clear hbi hlo hg HRS5 HRX HB5 S HW1 HW2
    go_simp
    go_upto_region 5 with (refine wpList_store_obj rfl 29 _ _ rfl bi rfl (ItV.arr { tag := 4325376 + pick x.tag 200, typ := 1 + pick x.typ 10 }) rfl _ _ HBI.out rfl iSize (arr_one _) ?_; intro w7 hb7 hc7 hs7; have HB7 := hid hb7; have HC7 := hid hc7; clear hb7 hc7 hs7)
    have S : Hid (TrSt w w7 b bx bi x { tag := 4325376 + pick x.tag 200, typ := 1 + pick x.typ 10 }) := by
      have h1 := HO1.out; have h2 := HO2.out
      refine ⟨(HC7.out.block _ (block_lt HRS6.out) (by simp; omega)).trans HRS6.out, (HC7.out.block _ (block_lt HRX6.out) (by simp; omega)).trans HRX6.out, HB7.out, OwnIt.nil _ _ _ _, Nat.zero_le _, SlC.nil _, fun k hk => by simp [Sl.blk] at hk, ?_, HBE.out, h1, h2⟩
      have h3 := HB6.out.trans (HC7.out.below (fun k hk => by rw [List.mem_singleton.1 hk]; have := HBE.out; omega) HB6.out.size)
      rw [← HBE.out] at h3; exact h3
    clear HBI HRS6 HRX6 HB6 HB7 HC7
    have ha30 : (a : Int) < 30 := by omega
    go_upto_block 0 with (fail)
    go_cut [7] (fun y7 wc => ∃ (s : Sl) (acc : List ItV), y7 = .bool (!acc.isEmpty) ∧ acc.map ItV.it = kids6 (tree6 g l) l a l.length ∧ TrSt w wc b bx bi x { tag := 4325376 + pick x.tag 200, typ := 1 + pick x.typ 10, ks := s, kids := acc })
    case first =>
      go_wp2_with fail
      go_loopw [7, 8] (fun y7 y8 wr => T6St (tree6 g l) l a w b bx bi x y7 y8 wr) (fun y7 y8 _ => 30 - (intOf y8).toNat)
      case atStart => exact ⟨⟨a + 1, {}, [], by go_num, rfl, Nat.le_refl _, .inr rfl, by omega, (kids6_0 _ _ _).symm, S.out⟩⟩
      case round =>
        obtain ⟨k, s, acc, rfl, rfl, hk1, hk2, hk3, hacc, hs⟩ := hrel.ex
        clear hrel S
        have S := hid hs; have HACC := hid hacc
        clear hs hacc
        have HK2 := hid hk2
        clear hk2
        by_cases hkn : k < nL
        · have hknz : (k : Int) < (nL : Int) := by omega
          by_cases hk30 : k < 30
          · have hk30z : (k : Int) < 30 := by omega
            obtain ⟨b', off', y, hay, hy, hrowy, hyok⟩ := HAL.out.row k hkn
            simp only [Option.some.injEq, Addr.mk.injEq, and_true] at hay
            obtain ⟨rfl, rfl⟩ := hay
            have hwb : Below w.heap.size w wr := by have h := S.out.bel; rwa [S.out.eb] at h
            have hcp : wr.cell? ⟨bL, oL + k * 6 + 1, none⟩ = some (.int .i64 y.par) := range_later hwb hrowy 1 _ rfl
            have HYD : Hid (l.getD k default = y) := by show _ = _; rw [List.getD_eq_getElem?_getD, hy]; rfl
            clear hrowy hyok hy hwb
            go_wp2_with fail
            refine (pick_any y.par (k : Int) _ (by omega) (by omega)).mono ?_
            rintro e wz ⟨rfl, rfl⟩
            dsimp only
            clear hcp
            cases hp : (pick y.par (k : Int) == (a : Int)) with
            | false =>
              have HSEL : Hid (sel6 l a k = false) := by show _ = _; unfold sel6; rw [HYD.out, hp]; simp
              have HKS : Hid (kids6 (tree6 g l) l a (k + 1) = kids6 (tree6 g l) l a k) := by show _ = _; rw [kids6_s, if_neg (by rw [HSEL.out]; decide)]
              go_wp2_with fail
              have HRR : T6St (tree6 g l) l a w b bx bi x (.bool (!acc.isEmpty)) (.int .i64 ((k : Int) + 1)) wr := ⟨⟨k + 1, s, acc, by go_num, rfl, by omega, .inl (by have := HLN.out; omega), by omega, by rw [HKS.out]; exact HACC.out, S.out⟩⟩
              go_roundw
              case rel => first | exact HRR | ((repeat apply Exists.intro); exact HRR) | ((repeat apply Exists.intro); exact ⟨HRR, rfl⟩)
              case measure => (simp [intOf] <;> omega)
            | true =>
              have HSEL : Hid (sel6 l a k = true) := by show _ = _; unfold sel6; rw [HYD.out, hp]; simp; omega
              have HKS : Hid (kids6 (tree6 g l) l a (k + 1) = kids6 (tree6 g l) l a k ++ [tree6 g l k]) := by show _ = _; rw [kids6_s, if_pos HSEL.out]
              have HIHK := hid (IH.out k (by omega))
              have HSN : Hid (s.n + 1 ≤ 30) := by
                have h1 := S.out.own.len
                have h2 := congrArg List.length HACC.out
                have h3 := kids6_len (tree6 g l) l a k
                simp only [List.length_map] at h2
                dsimp only at h1
                show _ ≤ _
                omega
              clear HSEL HYD
              obtain ⟨i, hi, hz0, hz1, hz2⟩ := info_parts iInfo
              have HWR := hid (show Below w.heap.size w wr by have h := S.out.bel; rwa [S.out.eb] at h)
              have HBL := hid (show ∀ q, (⟨s.a, s.n, s.c⟩ : Sl).v.ownBlock = some q → q < wr.heap.size from fun q hq => (S.out.own.own.lt q hq).2)
              obtain ⟨lo, hlo⟩ : ∃ lo, lo = wr.heap.size := ⟨_, rfl⟩
              have HLO := hid hlo
              clear hlo
              go_upto_region 11 with (fail)
              refine wp_region_each 6 [.eq (.pointer (some ⟨bi, 4, none⟩)), .eq (.slice s.a s.n s.c), .eq (.slice (some ⟨bL, oL, none⟩) nL cL), .eq (.int .i64 (k : Int)), stMade6 (tree6 g l k) lo, stOne6 (tree6 g l k) lo] (by kernel_rfl) (by kernel_rfl) (by kernel_rfl) (by kernel_rfl) ?_ ?_
              · all_goals
                  refine each_5 ?_ ?_ ?_ ?_ ?_ (each_c ?_ (each_n))
                  · intro w1 hg Ar seen
                    have s6 := seen.sl 6 (.pointer (some ⟨bi, 0, none⟩))
                    refine does_plain rfl fun K Q' hK => ?_
                    go_simp; exact hK _ _ (Grow.refl _) rfl
                  · intro w1 hg Ar seen
                    have e0 := seen.de 0 52
                    refine does_plain rfl fun K Q' hK => ?_
                    have hc := cell_of_block (j := 4) ((hg.block _ (block_lt S.out.bl)).trans S.out.bl) (ar4 _)
                    go_simp; exact hK _ _ (Grow.refl _) rfl
                  · intro w1 hg Ar seen
                    have s0 := seen.sl 0 (.slice (some ⟨bL, oL, none⟩) nL cL)
                    refine does_plain rfl fun K Q' hK => ?_
                    go_simp; exact hK _ _ (Grow.refl _) rfl
                  · intro w1 hg Ar seen
                    have s8 := seen.sl 8 (.int .i64 (k : Int))
                    refine does_plain rfl fun K Q' hK => ?_
                    go_simp; exact hK _ _ (Grow.refl _) rfl
                  · intro w1 hg Ar seen
                    obtain ⟨v2, e2, h2⟩ := seen.dp 2 54
                    rcases h2 with rfl
                    obtain ⟨v3, e3, h3⟩ := seen.dp 3 55
                    rcases h3 with rfl
                    refine does_plain rfl fun K Q' hK => ?_
                    go_simp
                    refine (HIHK.out _ (HAL.out.below (HWR.out.trans (Below.mono hg HWR.out.size)))).mono ?_
                    rintro e u ⟨hb, y2, rfl, h1, h2, h3⟩
                    exact hK _ _ hb ⟨y2, rfl, h1, h2, fun q hq => by have := h3 q hq; have := hg.size; have := HLO.out; omega⟩
                  · intro w1 hg Ar seen
                    obtain ⟨v4, e4, h4⟩ := seen.dp 4 56
                    refine does_plain rfl fun K Q' hK => ?_
                    obtain ⟨y2, rfl, h1, h2, h3⟩ := h4
                    refine wp_build_item 27 29 _ rfl y2 (by simp [Act.eval, e4]) i Tryd.underlying27 hi hz0 hz1 ?_
                    exact hK _ _ ((Below.refl _ _).alloc (Nat.le_refl _) _) ⟨y2, _, rfl, block_new _ _, h1, h2.below ((Below.refl _ _).alloc (Nat.le_refl _) _), h3⟩
              intro w1 hg
              refine upon_w' (js := [0, 1, 2, 3, 4, 5]) (by rfl) ?_
              refine upon_e (some 52) (upon_e (some 53) (upon_e (some 54) (upon_e (some 55) (upon_v (some 56) fun v4 h4 => upon_v (some 57) fun v5 h5 => upon_n ?_))))
              obtain ⟨y2, q2, rfl, hq2, hit, hok, hft⟩ := h5
              have HPB := hid hq2; have HIT := hid hit; have HOK := hid hok
              have HFT := hid (show ∀ q ∈ y2.foot, bi < q from fun q hq => by have h1 := hft q hq; have h2 := block_lt S.out.bl; have h3 := HLO.out; omega)
              have HFA := hid (show ∀ q ∈ y2.foot, s.v.ownBlock ≠ some q from fun q hq he => by have h1 := hft q hq; have h2 := HBL.out q he; have h3 := HLO.out; omega)
              have S2 := hid (S.out.below hg)
              clear hq2 hit hok hft h4 hg S HBL HWR HIHK HLO
              have S := S2
              clear S2
              have HBS := hid (block_lt S.out.bl)
              go_simp
              go_upto_region 8 with (at_builtin; refine wpList_append_c rfl _ _ 27 rfl (bi + 1) 29 i _ 5 72 Tryd.underlying27 hi hz0 hz1 hz2 rfl (by decide) (.slice s.a s.n s.c) s.n _ rfl S.out.own.own _ 1 _ y2.arr.toList rfl (RdC.of_block HPB.out) (by have := itm_one [y2]; simpa [itmCells, ItV.cells] using this) (fun hx => by cases hx) (by have := HSN.out; unfold maxLen; omega) (by have := HSN.out; omega) (by have := HBS.out; omega) ?_; intro a' c' w8 hown hgw hfr; have HOW := hid hown; have HGW := hid hgw; have HFR := hid hfr; have hbl8 := ((Chg.refl s.v.ownBlock.toList _).grown hgw (fun k hk => .inl (by rw [show s.v.ownBlock = some k from hk]; simp))).block bi (block_lt S.out.bl) (fun hm => by cases hv : s.v.ownBlock with | none => (rw [hv] at hm; cases hm) | some q => (rw [hv] at hm; simp at hm; have := (S.out.own.own.lt q hv).1; omega)) |>.trans S.out.bl; have hco := cell_of_block (j := 4) hbl8 (ar4 _); have hfz : ∀ j, w8.frozen? ⟨bi, j, none⟩ = false := fun j => frozen_of_block hbl8; clear hown hgw hfr hbl8)
              have S2 := hid (S.out.push (y := y2) rfl HOK.out HFT.out HFA.out HSN.out (by rw [itm_app]; simpa [itmCells, ItV.cells] using HOW.out) HGW.out HFR.out)
              clear S HPB HOK HFT HFA HOW HGW HFR hco hfz HBS hi hz0 hz1 hz2
              have HN2 : Hid ((acc ++ [y2]).map ItV.it = kids6 (tree6 g l) l a (k + 1)) := by show _ = _; rw [HKS.out, List.map_append, List.map_cons, List.map_nil, HIT.out, HACC.out]
              have HNE : Hid (true = !(acc ++ [y2]).isEmpty) := by show _ = _; simp
              have HRR0 := hid (show T6St (tree6 g l) l a w b bx bi x (.bool true) (.int .i64 ((k : Int) + 1)) _ from ⟨⟨k + 1, ⟨a', s.n + 1, c'⟩, acc ++ [y2], by go_num, by rw [← HNE.out], by omega, .inl (by have := HLN.out; omega), by omega, HN2.out, S2.out⟩⟩)
              clear S2
              generalize w8.setCell ⟨bi, 4, none⟩ (.slice a' (s.n + 1) c') = w9 at *
              go_wp2_with fail
              have HRR := HRR0.out
              go_roundw
              case rel => first | exact HRR | ((repeat apply Exists.intro); exact HRR) | ((repeat apply Exists.intro); exact ⟨HRR, rfl⟩)
              case measure => (simp [intOf] <;> omega)
          · have hk30z : ¬ (k : Int) < 30 := by omega
            have HFIN : Hid (acc.map ItV.it = kids6 (tree6 g l) l a l.length) := by
              have h1 := HLN.out
              show _ = _
              rw [HACC.out, show l.length = k + (l.length - k) by omega, kids6_end _ _ _ _ _ (by omega)]
            go_wp2_with fail
            go_meet
            exact ⟨s, acc, rfl, HFIN.out, S.out⟩
        · have hknz : ¬ (k : Int) < (nL : Int) := by omega
          have HFIN : Hid (acc.map ItV.it = kids6 (tree6 g l) l a l.length) := by
            have h1 := HLN.out
            have h2 := HK2.out
            have h3 : k = l.length := by omega
            show _ = _
            rw [HACC.out, h3]
          go_wp2_with fail
          go_meet
          exact ⟨s, acc, rfl, HFIN.out, S.out⟩
    case rest =>
      obtain ⟨s, acc, rfl, hacc, hs⟩ := hcut
      clear S
      have S := hid hs
      obtain ⟨KS, hKS⟩ : ∃ KS, KS = kids6 (tree6 g l) l a l.length := ⟨_, rfl⟩
      rw [← hKS] at HD hacc
      have HACC := hid hacc
      have HEM : Hid (KS.isEmpty = acc.isEmpty) := by show _ = _; rw [← hacc]; simp
      clear hs hacc hKS IH HAL
      go_upto_if 60 with (fail)
      go_cut [7] (fun _ wc => ∃ k0 : Int, k0 = typ6 x KS.isEmpty ∧ TrSt w wc b bx bi x { tag := 4325376 + pick x.tag 200, typ := k0, ks := s, kids := acc })
      case first =>
        cases he : acc.isEmpty with
        | true =>
          have HE := hid he
          clear he
          go_wp2_with fail
          go_meet
          exact ⟨1 + pick x.typ 10, by rw [HEM.out, HE.out]; rfl, S.out⟩
        | false =>
          have HE := hid he
          clear he
          have d1 := cell_of_block (j := 1) S.out.bl (ar1 _)
          have hfz : ∀ j, (_ : World).frozen? ⟨bi, j, none⟩ = false := fun j => frozen_of_block S.out.bl
          go_wp2_with fail
          go_meet
          exact ⟨1, by rw [HEM.out, HE.out]; rfl, S.out.setTyp 1⟩
      case rest =>
        obtain ⟨k0, hk0, hs⟩ := hcut
        clear S
        have S := hid hs
        have HK := hid hk0
        have h10 : k0 = 1 ∨ k0 = 2 ∨ k0 = 3 ∨ k0 = 4 ∨ k0 = 5 ∨ k0 = 6 ∨ k0 = 7 ∨ k0 = 8 ∨ k0 = 9 ∨ k0 = 10 := by
          have h1 := HTY.out
          rw [hk0]
          unfold typ6
          split <;> omega
        have H10 := hid h10
        clear hs hk0 h10 HTY
        have d1 := cell_of_block (j := 1) S.out.bl (ar1 _)
        go_upto_block 2 with (fail)
        clear d1
        go_cut [63] (fun _ wc => ∃ vi : ItV, vi.it = mid6 x KS ∧ TrSt w wc b bx bi x vi)
        case first =>
          have HXO := hid (HXW.out.below (show Below w.heap.size w wc by have h := S.out.bel; rwa [S.out.eb] at h))
          have d2 := cell_of_block (j := 2) S.out.bl (ar2 _)
          have d3 := cell_of_block (j := 3) S.out.bl (ar3 _)
          have hfz : ∀ j, wc.frozen? ⟨bi, j, none⟩ = false := fun j => frozen_of_block S.out.bl
          have n3 : wc.cell? ⟨bx, 3, none⟩ = some (.int .i64 x.n) := cell_of_block (j := 3) S.out.rx rfl
          have n4 : wc.cell? ⟨bx, 4, none⟩ = some (.slice x.da x.dn x.dc) := cell_of_block (j := 4) S.out.rx rfl
          have n5 : wc.cell? ⟨bx, 5, none⟩ = some (.int .i64 x.odd) := cell_of_block (j := 5) S.out.rx rfl
          have hnb := HXO.out.nb
          rcases H10.out with rfl | rfl | rfl | rfl | rfl | rfl | rfl | rfl | rfl | rfl
          · go_wp2_with fail
            go_meet
            exact ⟨_, mid_it HK.out s HACC.out (z := 0) rfl {} (d := []) rfl, S.out⟩
          · go_wp2_with fail
            go_meet
            refine ⟨_, ?_, S.out.setInt _⟩
            exact mid_it HK.out s HACC.out (by rfl) {} rfl
          · go_wp2_with fail
            go_meet
            refine ⟨_, ?_, S.out.setInt _⟩
            exact mid_it HK.out s HACC.out (by rfl) {} rfl
          · have HP2 : Hid (pick x.odd 2 = (pk6 x.odd 2 : Int)) := pk6_eq _ 2 (by omega)
            have HL2 := hid (pk6_lt x.odd 2 (by omega))
            obtain ⟨i, hi, hz0, hz1, hz2⟩ := info_parts infoB
            have HWM : Hid (IntKind.i64.wrap (8 * (pk6 x.odd 2 : Int)) = 8 * (pk6 x.odd 2 : Int) ∧ IntKind.i64.wrap (8 + 8 * (pk6 x.odd 2 : Int)) = 8 + 8 * (pk6 x.odd 2 : Int)) := by
              have h2 := HL2.out
              exact ⟨IntWalk.i64_in _ (by omega), IntWalk.i64_in _ (by omega)⟩
            have HLO := hid (block_lt S.out.bl)
            obtain ⟨lo, hlo⟩ : ∃ lo, lo = wc.heap.size := ⟨_, rfl⟩
            rw [← hlo] at HLO
            have HLW := hid hlo
            have HKB := hid (show ∀ q, s.v.ownBlock = some q → q < lo from fun q hq => by rw [hlo]; exact (S.out.own.own.lt q hq).2)
            have HKF := hid (show ∀ y ∈ acc, ∀ k ∈ y.foot, k < lo from fun y hy k hk => by rw [hlo]; exact (S.out.own.ok y hy).lt k hk)
            clear d2 d3 hfz n3 n4 n5 hlo
            go_upto_region 28 with (fail)
            refine wp_region_any (by kernel_rfl) ?_
            try (change wpAny _ _ _ _ _ _ _ (World.drew _))
            have S0 := hid (S.out.below (Below.drew (Below.refl _ wc)))
            have HXO0 := hid (HXO.out.below (Below.drew (Below.refl _ wc)))
            clear S HXO
            have S := S0
            have HXO := HXO0
            clear S0 HXO0
            refine wpAny_take (i := 0) (v := .pointer (some ⟨bx, 4, none⟩)) rfl (by kernel_rfl) (by kernel_rfl) (by kernel_rfl) (fun _ _ _ h => h) (Or.inl ⟨by rfl, by intro w; go_simp; try rfl⟩) ?_
            refine wpAny_take (i := 4) (v := .pointer (some ⟨bx, 5, none⟩)) rfl (by kernel_rfl) (by kernel_rfl) (by kernel_rfl) (fun _ _ _ h => h) (Or.inl ⟨by rfl, by intro w; go_simp; try rfl⟩) ?_
            refine wpAny_ready (rs := [1, 5]) (by kernel_rfl) (by simp) ?_
            refine AllReady.cons rfl (fun K hK => ?_) (AllReady.cons rfl (fun K hK => ?_) AllReady.nil)
            · have hc4 : wc.drew.cell? ⟨bx, 4, none⟩ = some (.slice x.da x.dn x.dc) := cell_of_block (j := 4) S.out.rx rfl
              go_simp
              refine hK _ _ ?_
              clear hK K hc4
              refine wpAny_ready (rs := [2, 5]) (by kernel_rfl) (by simp) ?_
              refine AllReady.cons rfl (fun K hK => ?_) (AllReady.cons rfl (fun K hK => ?_) AllReady.nil)
              · go_simp
                refine (few_any x.da x.dn x.dc 16 x.dl _ (HXO.out.rd) HXO.out.nc (Nat.le_trans HXO.out.nc HXO.out.sm) HXO.out.no (by decide)).mono ?_
                rintro e wf ⟨a2, c2, rfl, hown, hb⟩
                dsimp only
                have HOF := hid (own_lower6 hown (show lo ≤ _ by rw [HLW.out]; exact Nat.le_refl _))
                have SF := hid (S.out.below hb)
                have HBF := hid hb.size
                clear hown hb
                refine hK _ _ ?_
                clear hK K
                refine wpAny_ready (rs := [3, 5]) (by kernel_rfl) (by simp) ?_
                refine AllReady.cons rfl (fun K hK => ?_) (AllReady.cons rfl (fun K hK => ?_) AllReady.nil)
                · first | rw [if_pos (by rfl)] | skip
                  refine wp_append_zeros _ _ 23 3 rfl lo 5 i .i64 .i64 Tryd.underlying23 Tryd.underlying3 hi hz0 hz1 hz2 (.slice a2 (min x.dn 16) c2) (min x.dn 16) (x.dl.take 16) rfl HOF.out 16 rfl (by omega) (by rw [HLW.out]; exact HBF.out) ?_
                  intro a3 c3 wg hown hgw
                  have HOG := hid hown
                  have SG := hid (SF.out.grown rfl hgw (fun q hq => by
                    have h1 := (HOF.out.lt q hq).1; have h2 := HLO.out
                    exact ⟨by omega, fun h => by have := HKB.out q h; omega, fun y hy hm => by have := HKF.out y hy q hm; omega⟩))
                  clear hown hgw
                  refine hK _ _ ?_
                  clear hK K
                  refine wpAny_ready (rs := [5]) (by kernel_rfl) (by simp) ?_
                  refine AllReady.cons rfl (fun K hK => ?_) AllReady.nil
                  have hc5 : wg.cell? ⟨bx, 5, none⟩ = some (.int .i64 x.odd) := cell_of_block (j := 5) SG.out.rx rfl
                  go_simp
                  refine hK _ _ ?_
                  clear hK K hc5
                  refine wpAny_ready (rs := [6]) (by kernel_rfl) (by simp) ?_
                  refine AllReady.cons rfl (fun K hK => ?_) AllReady.nil
                  go_simp
                  refine (pick_any x.odd 2 _ (by omega) (by omega)).mono ?_
                  rintro e wz ⟨rfl, rfl⟩
                  dsimp only
                  rw [HP2.out]
                  refine hK _ _ ?_
                  clear hK K
                  have hm1 := HWM.out.1
                  have hm2 := HWM.out.2
                  refine wpAny_take (i := 7) (v := .int .i64 (8 * (pk6 x.odd 2 : Int))) rfl (by kernel_rfl) (by kernel_rfl) (by kernel_rfl) (fun _ _ _ h => h) (Or.inl ⟨by rfl, by intro w; go_simp; try rfl⟩) ?_
                  refine wpAny_take (i := 8) (v := .int .i64 (8 + 8 * (pk6 x.odd 2 : Int))) rfl (by kernel_rfl) (by kernel_rfl) (by kernel_rfl) (fun _ _ _ h => h) (Or.inl ⟨by rfl, by intro w; go_simp; try rfl⟩) ?_
                  obtain ⟨hcc, hdd⟩ := (fun h => And.intro h trivial) (own_slice HOG.out).1
                  have hsl : ∀ w, (Instr.slice 23 (.slice a3 (min x.dn 16 + 16) c3) none (some (.int .i64 (8 + 8 * (pk6 x.odd 2 : Int)))) none).run Tryd.prog w = .ok (.slice a3 (8 + 8 * pk6 x.odd 2) c3) w := fun w => by
                    have h := run_slice_front (P := Tryd.prog) 23 5 1 Tryd.underlying23 (fun w => by kernel_rfl) a3 (min x.dn 16 + 16) c3 (8 + 8 * pk6 x.odd 2) (by have := HL2.out; omega) w
                    rwa [show (((8 + 8 * pk6 x.odd 2 : Nat) : Int)) = 8 + 8 * (pk6 x.odd 2 : Int) by omega] at h
                  refine wpAny_take (i := 9) (v := .slice a3 (8 + 8 * pk6 x.odd 2) c3) rfl (by kernel_rfl) (by kernel_rfl) (by kernel_rfl) (fun _ _ _ h => h) (Or.inl ⟨by rfl, by intro w; go_simp; try rfl⟩) ?_
                  refine wpAny_take (i := 10) (v := .pointer (some ⟨bi, 3, none⟩)) rfl (by kernel_rfl) (by kernel_rfl) (by kernel_rfl) (fun _ _ _ h => h) (Or.inl ⟨by rfl, by intro w; go_simp; try rfl⟩) ?_
                  clear hm1 hm2 hsl
                  have HD3 : Hid (SlC wg ⟨a3, 8 + 8 * pk6 x.odd 2, c3⟩ (((x.dl.take 16 ++ List.replicate 16 0).take (8 + 8 * pk6 x.odd 2)).map B8)) := by
                    have h1 := SlC.of_own (s := ⟨a3, min x.dn 16 + 16, c3⟩) HOG.out (by show min x.dn 16 + 16 ≤ _; omega)
                    have hk : 8 + 8 * pk6 x.odd 2 ≤ min x.dn 16 + 16 := by have := HL2.out; omega
                    refine ⟨?_, h1.no, by show 8 + 8 * pk6 x.odd 2 ≤ _; omega, h1.lt, Nat.le_trans hk hcc⟩
                    exact (h1.rdB.take hk).toC
                  have HF3 := hid (fun k (hk : k ∈ (⟨a3, 8 + 8 * pk6 x.odd 2, c3⟩ : Sl).blk) => Nat.lt_of_lt_of_le HLO.out (blk_own (s := ⟨a3, min x.dn 16 + 16, c3⟩) HOG.out k hk))
                  have d3 := cell_of_block (j := 3) SG.out.bl (ar3 _)
                  have hfz : ∀ j, wg.frozen? ⟨bi, j, none⟩ = false := fun j => frozen_of_block SG.out.bl
                  refine wpAny_ready (rs := [11]) (by kernel_rfl) (by simp) ?_
                  refine AllReady.cons rfl (fun K hK => ?_) AllReady.nil
                  go_simp
                  refine hK _ _ ?_
                  clear hK K d3 hfz hcc hdd
                  refine wpAny_done (by kernel_rfl) ?_ _
                  go_wp2_with fail
                  go_meet
                  refine ⟨_, ?_, SG.out.setData HD3.out HF3.out⟩
                  exact mid_it HK.out s HACC.out (z := 0) rfl _ rfl
                · have hc5 : wf.cell? ⟨bx, 5, none⟩ = some (.int .i64 x.odd) := cell_of_block (j := 5) SF.out.rx rfl
                  go_simp
                  refine hK _ _ ?_
                  clear hK K hc5
                  refine wpAny_ready (rs := [3]) (by kernel_rfl) (by simp) ?_
                  refine AllReady.cons rfl (fun K hK => ?_) AllReady.nil
                  first | rw [if_pos (by rfl)] | skip
                  refine wp_append_zeros _ _ 23 3 rfl lo 5 i .i64 .i64 Tryd.underlying23 Tryd.underlying3 hi hz0 hz1 hz2 (.slice a2 (min x.dn 16) c2) (min x.dn 16) (x.dl.take 16) rfl HOF.out 16 rfl (by omega) (by rw [HLW.out]; exact HBF.out) ?_
                  intro a3 c3 wg hown hgw
                  have HOG := hid hown
                  have SG := hid (SF.out.grown rfl hgw (fun q hq => by
                    have h1 := (HOF.out.lt q hq).1; have h2 := HLO.out
                    exact ⟨by omega, fun h => by have := HKB.out q h; omega, fun y hy hm => by have := HKF.out y hy q hm; omega⟩))
                  clear hown hgw
                  refine hK _ _ ?_
                  clear hK K
                  refine wpAny_ready (rs := [6]) (by kernel_rfl) (by simp) ?_
                  refine AllReady.cons rfl (fun K hK => ?_) AllReady.nil
                  go_simp
                  refine (pick_any x.odd 2 _ (by omega) (by omega)).mono ?_
                  rintro e wz ⟨rfl, rfl⟩
                  dsimp only
                  rw [HP2.out]
                  refine hK _ _ ?_
                  clear hK K
                  have hm1 := HWM.out.1
                  have hm2 := HWM.out.2
                  refine wpAny_take (i := 7) (v := .int .i64 (8 * (pk6 x.odd 2 : Int))) rfl (by kernel_rfl) (by kernel_rfl) (by kernel_rfl) (fun _ _ _ h => h) (Or.inl ⟨by rfl, by intro w; go_simp; try rfl⟩) ?_
                  refine wpAny_take (i := 8) (v := .int .i64 (8 + 8 * (pk6 x.odd 2 : Int))) rfl (by kernel_rfl) (by kernel_rfl) (by kernel_rfl) (fun _ _ _ h => h) (Or.inl ⟨by rfl, by intro w; go_simp; try rfl⟩) ?_
                  obtain ⟨hcc, hdd⟩ := (fun h => And.intro h trivial) (own_slice HOG.out).1
                  have hsl : ∀ w, (Instr.slice 23 (.slice a3 (min x.dn 16 + 16) c3) none (some (.int .i64 (8 + 8 * (pk6 x.odd 2 : Int)))) none).run Tryd.prog w = .ok (.slice a3 (8 + 8 * pk6 x.odd 2) c3) w := fun w => by
                    have h := run_slice_front (P := Tryd.prog) 23 5 1 Tryd.underlying23 (fun w => by kernel_rfl) a3 (min x.dn 16 + 16) c3 (8 + 8 * pk6 x.odd 2) (by have := HL2.out; omega) w
                    rwa [show (((8 + 8 * pk6 x.odd 2 : Nat) : Int)) = 8 + 8 * (pk6 x.odd 2 : Int) by omega] at h
                  refine wpAny_take (i := 9) (v := .slice a3 (8 + 8 * pk6 x.odd 2) c3) rfl (by kernel_rfl) (by kernel_rfl) (by kernel_rfl) (fun _ _ _ h => h) (Or.inl ⟨by rfl, by intro w; go_simp; try rfl⟩) ?_
                  refine wpAny_take (i := 10) (v := .pointer (some ⟨bi, 3, none⟩)) rfl (by kernel_rfl) (by kernel_rfl) (by kernel_rfl) (fun _ _ _ h => h) (Or.inl ⟨by rfl, by intro w; go_simp; try rfl⟩) ?_
                  clear hm1 hm2 hsl
                  have HD3 : Hid (SlC wg ⟨a3, 8 + 8 * pk6 x.odd 2, c3⟩ (((x.dl.take 16 ++ List.replicate 16 0).take (8 + 8 * pk6 x.odd 2)).map B8)) := by
                    have h1 := SlC.of_own (s := ⟨a3, min x.dn 16 + 16, c3⟩) HOG.out (by show min x.dn 16 + 16 ≤ _; omega)
                    have hk : 8 + 8 * pk6 x.odd 2 ≤ min x.dn 16 + 16 := by have := HL2.out; omega
                    refine ⟨?_, h1.no, by show 8 + 8 * pk6 x.odd 2 ≤ _; omega, h1.lt, Nat.le_trans hk hcc⟩
                    exact (h1.rdB.take hk).toC
                  have HF3 := hid (fun k (hk : k ∈ (⟨a3, 8 + 8 * pk6 x.odd 2, c3⟩ : Sl).blk) => Nat.lt_of_lt_of_le HLO.out (blk_own (s := ⟨a3, min x.dn 16 + 16, c3⟩) HOG.out k hk))
                  have d3 := cell_of_block (j := 3) SG.out.bl (ar3 _)
                  have hfz : ∀ j, wg.frozen? ⟨bi, j, none⟩ = false := fun j => frozen_of_block SG.out.bl
                  refine wpAny_ready (rs := [11]) (by kernel_rfl) (by simp) ?_
                  refine AllReady.cons rfl (fun K hK => ?_) AllReady.nil
                  go_simp
                  refine hK _ _ ?_
                  clear hK K d3 hfz hcc hdd
                  refine wpAny_done (by kernel_rfl) ?_ _
                  go_wp2_with fail
                  go_meet
                  refine ⟨_, ?_, SG.out.setData HD3.out HF3.out⟩
                  exact mid_it HK.out s HACC.out (z := 0) rfl _ rfl
              · have hc5 : wc.drew.cell? ⟨bx, 5, none⟩ = some (.int .i64 x.odd) := cell_of_block (j := 5) S.out.rx rfl
                go_simp
                refine hK _ _ ?_
                clear hK K hc5
                refine wpAny_ready (rs := [2]) (by kernel_rfl) (by simp) ?_
                refine AllReady.cons rfl (fun K hK => ?_) AllReady.nil
                go_simp
                refine (few_any x.da x.dn x.dc 16 x.dl _ (HXO.out.rd) HXO.out.nc (Nat.le_trans HXO.out.nc HXO.out.sm) HXO.out.no (by decide)).mono ?_
                rintro e wf ⟨a2, c2, rfl, hown, hb⟩
                dsimp only
                have HOF := hid (own_lower6 hown (show lo ≤ _ by rw [HLW.out]; exact Nat.le_refl _))
                have SF := hid (S.out.below hb)
                have HBF := hid hb.size
                clear hown hb
                refine hK _ _ ?_
                clear hK K
                refine wpAny_ready (rs := [3]) (by kernel_rfl) (by simp) ?_
                refine AllReady.cons rfl (fun K hK => ?_) AllReady.nil
                first | rw [if_pos (by rfl)] | skip
                refine wp_append_zeros _ _ 23 3 rfl lo 5 i .i64 .i64 Tryd.underlying23 Tryd.underlying3 hi hz0 hz1 hz2 (.slice a2 (min x.dn 16) c2) (min x.dn 16) (x.dl.take 16) rfl HOF.out 16 rfl (by omega) (by rw [HLW.out]; exact HBF.out) ?_
                intro a3 c3 wg hown hgw
                have HOG := hid hown
                have SG := hid (SF.out.grown rfl hgw (fun q hq => by
                  have h1 := (HOF.out.lt q hq).1; have h2 := HLO.out
                  exact ⟨by omega, fun h => by have := HKB.out q h; omega, fun y hy hm => by have := HKF.out y hy q hm; omega⟩))
                clear hown hgw
                refine hK _ _ ?_
                clear hK K
                refine wpAny_ready (rs := [6]) (by kernel_rfl) (by simp) ?_
                refine AllReady.cons rfl (fun K hK => ?_) AllReady.nil
                go_simp
                refine (pick_any x.odd 2 _ (by omega) (by omega)).mono ?_
                rintro e wz ⟨rfl, rfl⟩
                dsimp only
                rw [HP2.out]
                refine hK _ _ ?_
                clear hK K
                have hm1 := HWM.out.1
                have hm2 := HWM.out.2
                refine wpAny_take (i := 7) (v := .int .i64 (8 * (pk6 x.odd 2 : Int))) rfl (by kernel_rfl) (by kernel_rfl) (by kernel_rfl) (fun _ _ _ h => h) (Or.inl ⟨by rfl, by intro w; go_simp; try rfl⟩) ?_
                refine wpAny_take (i := 8) (v := .int .i64 (8 + 8 * (pk6 x.odd 2 : Int))) rfl (by kernel_rfl) (by kernel_rfl) (by kernel_rfl) (fun _ _ _ h => h) (Or.inl ⟨by rfl, by intro w; go_simp; try rfl⟩) ?_
                obtain ⟨hcc, hdd⟩ := (fun h => And.intro h trivial) (own_slice HOG.out).1
                have hsl : ∀ w, (Instr.slice 23 (.slice a3 (min x.dn 16 + 16) c3) none (some (.int .i64 (8 + 8 * (pk6 x.odd 2 : Int)))) none).run Tryd.prog w = .ok (.slice a3 (8 + 8 * pk6 x.odd 2) c3) w := fun w => by
                  have h := run_slice_front (P := Tryd.prog) 23 5 1 Tryd.underlying23 (fun w => by kernel_rfl) a3 (min x.dn 16 + 16) c3 (8 + 8 * pk6 x.odd 2) (by have := HL2.out; omega) w
                  rwa [show (((8 + 8 * pk6 x.odd 2 : Nat) : Int)) = 8 + 8 * (pk6 x.odd 2 : Int) by omega] at h
                refine wpAny_take (i := 9) (v := .slice a3 (8 + 8 * pk6 x.odd 2) c3) rfl (by kernel_rfl) (by kernel_rfl) (by kernel_rfl) (fun _ _ _ h => h) (Or.inl ⟨by rfl, by intro w; go_simp; try rfl⟩) ?_
                refine wpAny_take (i := 10) (v := .pointer (some ⟨bi, 3, none⟩)) rfl (by kernel_rfl) (by kernel_rfl) (by kernel_rfl) (fun _ _ _ h => h) (Or.inl ⟨by rfl, by intro w; go_simp; try rfl⟩) ?_
                clear hm1 hm2 hsl
                have HD3 : Hid (SlC wg ⟨a3, 8 + 8 * pk6 x.odd 2, c3⟩ (((x.dl.take 16 ++ List.replicate 16 0).take (8 + 8 * pk6 x.odd 2)).map B8)) := by
                  have h1 := SlC.of_own (s := ⟨a3, min x.dn 16 + 16, c3⟩) HOG.out (by show min x.dn 16 + 16 ≤ _; omega)
                  have hk : 8 + 8 * pk6 x.odd 2 ≤ min x.dn 16 + 16 := by have := HL2.out; omega
                  refine ⟨?_, h1.no, by show 8 + 8 * pk6 x.odd 2 ≤ _; omega, h1.lt, Nat.le_trans hk hcc⟩
                  exact (h1.rdB.take hk).toC
                have HF3 := hid (fun k (hk : k ∈ (⟨a3, 8 + 8 * pk6 x.odd 2, c3⟩ : Sl).blk) => Nat.lt_of_lt_of_le HLO.out (blk_own (s := ⟨a3, min x.dn 16 + 16, c3⟩) HOG.out k hk))
                have d3 := cell_of_block (j := 3) SG.out.bl (ar3 _)
                have hfz : ∀ j, wg.frozen? ⟨bi, j, none⟩ = false := fun j => frozen_of_block SG.out.bl
                refine wpAny_ready (rs := [11]) (by kernel_rfl) (by simp) ?_
                refine AllReady.cons rfl (fun K hK => ?_) AllReady.nil
                go_simp
                refine hK _ _ ?_
                clear hK K d3 hfz hcc hdd
                refine wpAny_done (by kernel_rfl) ?_ _
                go_wp2_with fail
                go_meet
                refine ⟨_, ?_, SG.out.setData HD3.out HF3.out⟩
                exact mid_it HK.out s HACC.out (z := 0) rfl _ rfl
            · have hc5 : wc.drew.cell? ⟨bx, 5, none⟩ = some (.int .i64 x.odd) := cell_of_block (j := 5) S.out.rx rfl
              go_simp
              refine hK _ _ ?_
              clear hK K hc5
              refine wpAny_ready (rs := [1]) (by kernel_rfl) (by simp) ?_
              refine AllReady.cons rfl (fun K hK => ?_) AllReady.nil
              have hc4 : wc.drew.cell? ⟨bx, 4, none⟩ = some (.slice x.da x.dn x.dc) := cell_of_block (j := 4) S.out.rx rfl
              go_simp
              refine hK _ _ ?_
              clear hK K hc4
              refine wpAny_ready (rs := [2]) (by kernel_rfl) (by simp) ?_
              refine AllReady.cons rfl (fun K hK => ?_) AllReady.nil
              go_simp
              refine (few_any x.da x.dn x.dc 16 x.dl _ (HXO.out.rd) HXO.out.nc (Nat.le_trans HXO.out.nc HXO.out.sm) HXO.out.no (by decide)).mono ?_
              rintro e wf ⟨a2, c2, rfl, hown, hb⟩
              dsimp only
              have HOF := hid (own_lower6 hown (show lo ≤ _ by rw [HLW.out]; exact Nat.le_refl _))
              have SF := hid (S.out.below hb)
              have HBF := hid hb.size
              clear hown hb
              refine hK _ _ ?_
              clear hK K
              refine wpAny_ready (rs := [3]) (by kernel_rfl) (by simp) ?_
              refine AllReady.cons rfl (fun K hK => ?_) AllReady.nil
              first | rw [if_pos (by rfl)] | skip
              refine wp_append_zeros _ _ 23 3 rfl lo 5 i .i64 .i64 Tryd.underlying23 Tryd.underlying3 hi hz0 hz1 hz2 (.slice a2 (min x.dn 16) c2) (min x.dn 16) (x.dl.take 16) rfl HOF.out 16 rfl (by omega) (by rw [HLW.out]; exact HBF.out) ?_
              intro a3 c3 wg hown hgw
              have HOG := hid hown
              have SG := hid (SF.out.grown rfl hgw (fun q hq => by
                have h1 := (HOF.out.lt q hq).1; have h2 := HLO.out
                exact ⟨by omega, fun h => by have := HKB.out q h; omega, fun y hy hm => by have := HKF.out y hy q hm; omega⟩))
              clear hown hgw
              refine hK _ _ ?_
              clear hK K
              refine wpAny_ready (rs := [6]) (by kernel_rfl) (by simp) ?_
              refine AllReady.cons rfl (fun K hK => ?_) AllReady.nil
              go_simp
              refine (pick_any x.odd 2 _ (by omega) (by omega)).mono ?_
              rintro e wz ⟨rfl, rfl⟩
              dsimp only
              rw [HP2.out]
              refine hK _ _ ?_
              clear hK K
              have hm1 := HWM.out.1
              have hm2 := HWM.out.2
              refine wpAny_take (i := 7) (v := .int .i64 (8 * (pk6 x.odd 2 : Int))) rfl (by kernel_rfl) (by kernel_rfl) (by kernel_rfl) (fun _ _ _ h => h) (Or.inl ⟨by rfl, by intro w; go_simp; try rfl⟩) ?_
              refine wpAny_take (i := 8) (v := .int .i64 (8 + 8 * (pk6 x.odd 2 : Int))) rfl (by kernel_rfl) (by kernel_rfl) (by kernel_rfl) (fun _ _ _ h => h) (Or.inl ⟨by rfl, by intro w; go_simp; try rfl⟩) ?_
              obtain ⟨hcc, hdd⟩ := (fun h => And.intro h trivial) (own_slice HOG.out).1
              have hsl : ∀ w, (Instr.slice 23 (.slice a3 (min x.dn 16 + 16) c3) none (some (.int .i64 (8 + 8 * (pk6 x.odd 2 : Int)))) none).run Tryd.prog w = .ok (.slice a3 (8 + 8 * pk6 x.odd 2) c3) w := fun w => by
                have h := run_slice_front (P := Tryd.prog) 23 5 1 Tryd.underlying23 (fun w => by kernel_rfl) a3 (min x.dn 16 + 16) c3 (8 + 8 * pk6 x.odd 2) (by have := HL2.out; omega) w
                rwa [show (((8 + 8 * pk6 x.odd 2 : Nat) : Int)) = 8 + 8 * (pk6 x.odd 2 : Int) by omega] at h
              refine wpAny_take (i := 9) (v := .slice a3 (8 + 8 * pk6 x.odd 2) c3) rfl (by kernel_rfl) (by kernel_rfl) (by kernel_rfl) (fun _ _ _ h => h) (Or.inl ⟨by rfl, by intro w; go_simp; try rfl⟩) ?_
              refine wpAny_take (i := 10) (v := .pointer (some ⟨bi, 3, none⟩)) rfl (by kernel_rfl) (by kernel_rfl) (by kernel_rfl) (fun _ _ _ h => h) (Or.inl ⟨by rfl, by intro w; go_simp; try rfl⟩) ?_
              clear hm1 hm2 hsl
              have HD3 : Hid (SlC wg ⟨a3, 8 + 8 * pk6 x.odd 2, c3⟩ (((x.dl.take 16 ++ List.replicate 16 0).take (8 + 8 * pk6 x.odd 2)).map B8)) := by
                have h1 := SlC.of_own (s := ⟨a3, min x.dn 16 + 16, c3⟩) HOG.out (by show min x.dn 16 + 16 ≤ _; omega)
                have hk : 8 + 8 * pk6 x.odd 2 ≤ min x.dn 16 + 16 := by have := HL2.out; omega
                refine ⟨?_, h1.no, by show 8 + 8 * pk6 x.odd 2 ≤ _; omega, h1.lt, Nat.le_trans hk hcc⟩
                exact (h1.rdB.take hk).toC
              have HF3 := hid (fun k (hk : k ∈ (⟨a3, 8 + 8 * pk6 x.odd 2, c3⟩ : Sl).blk) => Nat.lt_of_lt_of_le HLO.out (blk_own (s := ⟨a3, min x.dn 16 + 16, c3⟩) HOG.out k hk))
              have d3 := cell_of_block (j := 3) SG.out.bl (ar3 _)
              have hfz : ∀ j, wg.frozen? ⟨bi, j, none⟩ = false := fun j => frozen_of_block SG.out.bl
              refine wpAny_ready (rs := [11]) (by kernel_rfl) (by simp) ?_
              refine AllReady.cons rfl (fun K hK => ?_) AllReady.nil
              go_simp
              refine hK _ _ ?_
              clear hK K d3 hfz hcc hdd
              refine wpAny_done (by kernel_rfl) ?_ _
              go_wp2_with fail
              go_meet
              refine ⟨_, ?_, SG.out.setData HD3.out HF3.out⟩
              exact mid_it HK.out s HACC.out (z := 0) rfl _ rfl
          · go_wp2_with fail
            go_meet
            refine ⟨_, ?_, S.out.setInt _⟩
            exact mid_it HK.out s HACC.out (by rfl) {} rfl
          · have ha := and1 x.n
            go_wp2_with fail
            go_meet
            refine ⟨_, ?_, S.out.setInt _⟩
            exact mid_it HK.out s HACC.out (by rfl) {} rfl
          · have HP4 : Hid (pick x.odd 4 = (pk6 x.odd 4 : Int)) := pk6_eq _ 4 (by omega)
            have HL4 := hid (pk6_lt x.odd 4 (by omega))
            have HGET := hid (strs6_get (pk6 x.odd 4) HL4.out)
            obtain ⟨TX, hTX⟩ : ∃ TX : ByteArray, TX = ⟨(txt6.getD (pk6 x.odd 4) []).toArray⟩ := ⟨_, rfl⟩
            rw [← hTX] at HGET
            have HTX : Hid (TX.data.toList = txt6.getD (pk6 x.odd 4) [] ∧ TX.size ≤ 10) := by rw [hTX]; exact ⟨by simp, by show (txt6.getD (pk6 x.odd 4) []).toArray.size ≤ 10; simpa using txt6_len _ HL4.out⟩
            clear hTX
            go_wp2_with fail
            refine (pick_any x.odd 4 _ (by omega) (by omega)).mono ?_
            rintro e wz ⟨rfl, rfl⟩
            dsimp only
            rw [HP4.out]
            have kc := fun (W : World) => Lib.run_convert_string_bytes (P := Tryd.prog) W 9 23 5 TX Tryd.underlying9 Tryd.underlying23 Tryd.underlying5
            have hbw := bytesW_below wc 5 TX
            have S2 := hid (S.out.below hbw)
            have HSL := hid (bytesW_slC wc 5 TX (by have := HTX.out.2; omega) (grownCap wc TX.size 0 5) (grownCap_ge _ _ _ _))
            have HLO := hid (block_lt S.out.bl)
            clear hbw d2 d3 hfz n3 n4 n5
            have d3 := cell_of_block (j := 3) S2.out.bl (ar3 _)
            have hfz : ∀ j, (Lib.bytesWorld wc 5 TX).frozen? ⟨bi, j, none⟩ = false := fun j => frozen_of_block S2.out.bl
            go_wp2_with (refine wpList_index_row rfl _ _ rfl Tryd.underlying56 sizeStr6 Tryd.underlying9 rfl _ rfl _ rfl (pk6 x.odd 4) rfl _ HL4.out HGET.out ?_)
            go_meet
            rw [HTX.out.1] at HSL
            refine ⟨_, ?_, S2.out.setData HSL.out (fun k hk => by simp [Sl.blk] at hk; have := HLO.out; omega)⟩
            exact mid_it HK.out s HACC.out (z := 0) rfl _ rfl
          · go_wp2_with fail
            refine (few_any x.da x.dn x.dc 30 x.dl _ HXO.out.rd HXO.out.nc (Nat.le_trans HXO.out.nc HXO.out.sm) HXO.out.no (by decide)).mono ?_
            rintro e w8 ⟨a', c', rfl, hown, hb8⟩
            dsimp only
            have HOW := hid hown
            have S2 := hid (S.out.below hb8)
            have HLO := hid (block_lt S.out.bl)
            clear hown hb8 d2 d3 hfz n3 n4 n5 S
            have d3 := cell_of_block (j := 3) S2.out.bl (ar3 _)
            have hfz : ∀ j, w8.frozen? ⟨bi, j, none⟩ = false := fun j => frozen_of_block S2.out.bl
            go_wp2_with fail
            go_meet
            refine ⟨_, ?_, S2.out.setData (SlC.of_own (s := ⟨a', min x.dn 30, c'⟩) HOW.out (by show min x.dn 30 ≤ _; omega)) (fun k hk => Nat.lt_of_lt_of_le HLO.out (blk_own (s := ⟨a', min x.dn 30, c'⟩) HOW.out k hk))⟩
            exact mid_it HK.out s HACC.out (z := 0) rfl _ rfl
          · go_wp2_with fail
            go_meet
            refine ⟨_, ?_, S.out.setInt _⟩
            exact mid_it HK.out s HACC.out (by rfl) {} rfl
          · go_wp2_with fail
            go_meet
            refine ⟨_, ?_, S.out.setInt _⟩
            exact mid_it HK.out s HACC.out (by rfl) {} rfl
        case rest =>
          obtain ⟨vi, hvi, hs⟩ := hcut
          clear S
          have S := hid hs
          have HVI := hid hvi
          clear hs hvi
          have HXO := hid (HXW.out.below (show Below w.heap.size w wc by have h := S.out.bel; rwa [S.out.eb] at h))
          have n5 : wc.cell? ⟨bx, 5, none⟩ = some (.int .i64 x.odd) := cell_of_block (j := 5) S.out.rx rfl
          go_wp2_with fail
          refine (pick_any x.odd 150 _ (by omega) (by omega)).mono ?_
          rintro e wz ⟨rfl, rfl⟩
          dsimp only
          clear n5
          have d0 := cell_of_block (j := 0) S.out.bl (ar0 _)
          have d1 := cell_of_block (j := 1) S.out.bl (ar1 _)
          have d2 := cell_of_block (j := 2) S.out.bl (ar2 _)
          have d3 := cell_of_block (j := 3) S.out.bl (ar3 _)
          have hfz : ∀ j, wc.frozen? ⟨bi, j, none⟩ = false := fun j => frozen_of_block S.out.bl
          have n0 : wc.cell? ⟨bx, 0, none⟩ = some (.int .i64 x.typ) := cell_of_block (j := 0) S.out.rx rfl
          have n2 : wc.cell? ⟨bx, 2, none⟩ = some (.int .i64 x.tag) := cell_of_block (j := 2) S.out.rx rfl
          have n3 : wc.cell? ⟨bx, 3, none⟩ = some (.int .i64 x.n) := cell_of_block (j := 3) S.out.rx rfl
          have n4 : wc.cell? ⟨bx, 4, none⟩ = some (.slice x.da x.dn x.dc) := cell_of_block (j := 4) S.out.rx rfl
          obtain ⟨od, hod⟩ : ∃ od, od = pick x.odd 150 := ⟨_, rfl⟩
          rw [← hod]
          have HOD : Hid (odd6 x (mid6 x KS) = if od = 149 then { mid6 x KS with int := x.n } else if od = 148 then { mid6 x KS with data := x.dl.take 9 } else if od = 147 then { mid6 x KS with tag := x.tag } else if od = 146 then { mid6 x KS with typ := pick x.typ 13 } else mid6 x KS) := by rw [hod]; rfl
          rw [HOD.out] at HD
          clear hod HOD
          by_cases h9 : od = 149
          · subst h9
            have S2 := hid (S.out.setInt x.n)
            go_wp2_with (first | (refine wpList_load_row rfl 29 _ rfl bi rfl _ _ _ _ S2.out.bl Tryd.underlying29 rfl iSize ?_) | (refine wpList_store_obj rfl 29 _ _ rfl b rfl _ rfl _ _ S2.out.rs rfl iSize (arr_one _) ?_; intro w10 hb10 hc10 hs10; have HB10 := hid hb10; have HC10 := hid hc10; clear hb10 hc10 hs10))
            refine bodyPost_ret (results_cell_row rfl _ _ b _ _ _ _ rfl HB10.out Tryd.underlying29 rfl iSize) rfl ?_
            unfold TreeRes
            rw [HD.out]
            refine ⟨?_, _, rfl, ?_, ItV.ok.keep HC10.out S2.out.ok (fun k hk hm => ?_), fun k hk => ?_⟩
            · have h1 := S2.out.bel.trans (HC10.out.below (fun k hk => by rw [List.mem_singleton.1 hk]; exact Nat.le_refl _) (Nat.le_of_lt (block_lt S2.out.rs)))
              rw [S2.out.eb] at h1; exact h1
            · rw [if_pos (by first | rfl | trivial), ← HVI.out, ItV.it_eq, ItV.it_eq]
            · have h1 := S2.out.foot k hk; have h2 := S2.out.o1; have h3 := S2.out.o2; have h4 := List.mem_singleton.1 hm; omega
            · have h1 := S2.out.foot k hk; have h2 := S2.out.o1; have h3 := S2.out.o2; have h4 := S2.out.eb; omega
          have e9 : (od == 149) = false := beq_eq_false_iff_ne.2 h9
          by_cases h8 : od = 148
          · subst h8
            go_wp2_with fail
            refine (few_any x.da x.dn x.dc 9 x.dl _ HXO.out.rd HXO.out.nc (Nat.le_trans HXO.out.nc HXO.out.sm) HXO.out.no (by decide)).mono ?_
            rintro e w8 ⟨a', c', rfl, hown, hb8⟩
            dsimp only
            have HOW := hid hown
            have S3 := hid (S.out.below hb8)
            have HLO := hid (block_lt S.out.bl)
            clear hown hb8 d0 d1 d2 d3 hfz n0 n2 n3 n4 S
            have d3 := cell_of_block (j := 3) S3.out.bl (ar3 _)
            have hfz : ∀ j, w8.frozen? ⟨bi, j, none⟩ = false := fun j => frozen_of_block S3.out.bl
            have S2 := hid (S3.out.setData (SlC.of_own (s := ⟨a', min x.dn 9, c'⟩) HOW.out (by show min x.dn 9 ≤ _; omega)) (fun k hk => Nat.lt_of_lt_of_le HLO.out (blk_own (s := ⟨a', min x.dn 9, c'⟩) HOW.out k hk)))
            go_wp2_with (first | (refine wpList_load_row rfl 29 _ rfl bi rfl _ _ _ _ S2.out.bl Tryd.underlying29 rfl iSize ?_) | (refine wpList_store_obj rfl 29 _ _ rfl b rfl _ rfl _ _ S2.out.rs rfl iSize (arr_one _) ?_; intro w10 hb10 hc10 hs10; have HB10 := hid hb10; have HC10 := hid hc10; clear hb10 hc10 hs10))
            refine bodyPost_ret (results_cell_row rfl _ _ b _ _ _ _ rfl HB10.out Tryd.underlying29 rfl iSize) rfl ?_
            unfold TreeRes
            rw [HD.out]
            refine ⟨?_, _, rfl, ?_, ItV.ok.keep HC10.out S2.out.ok (fun k hk hm => ?_), fun k hk => ?_⟩
            · have h1 := S2.out.bel.trans (HC10.out.below (fun k hk => by rw [List.mem_singleton.1 hk]; exact Nat.le_refl _) (Nat.le_of_lt (block_lt S2.out.rs)))
              rw [S2.out.eb] at h1; exact h1
            · rw [if_neg (by decide), if_pos (by first | rfl | trivial), ← HVI.out, ItV.it_eq, ItV.it_eq]
            · have h1 := S2.out.foot k hk; have h2 := S2.out.o1; have h3 := S2.out.o2; have h4 := List.mem_singleton.1 hm; omega
            · have h1 := S2.out.foot k hk; have h2 := S2.out.o1; have h3 := S2.out.o2; have h4 := S2.out.eb; omega
          have e8 : (od == 148) = false := beq_eq_false_iff_ne.2 h8
          by_cases h7 : od = 147
          · subst h7
            have S2 := hid (S.out.setTag x.tag)
            go_wp2_with (first | (refine wpList_load_row rfl 29 _ rfl bi rfl _ _ _ _ S2.out.bl Tryd.underlying29 rfl iSize ?_) | (refine wpList_store_obj rfl 29 _ _ rfl b rfl _ rfl _ _ S2.out.rs rfl iSize (arr_one _) ?_; intro w10 hb10 hc10 hs10; have HB10 := hid hb10; have HC10 := hid hc10; clear hb10 hc10 hs10))
            refine bodyPost_ret (results_cell_row rfl _ _ b _ _ _ _ rfl HB10.out Tryd.underlying29 rfl iSize) rfl ?_
            unfold TreeRes
            rw [HD.out]
            refine ⟨?_, _, rfl, ?_, ItV.ok.keep HC10.out S2.out.ok (fun k hk hm => ?_), fun k hk => ?_⟩
            · have h1 := S2.out.bel.trans (HC10.out.below (fun k hk => by rw [List.mem_singleton.1 hk]; exact Nat.le_refl _) (Nat.le_of_lt (block_lt S2.out.rs)))
              rw [S2.out.eb] at h1; exact h1
            · rw [if_neg (by decide), if_neg (by decide), if_pos (by first | rfl | trivial), ← HVI.out, ItV.it_eq, ItV.it_eq]
            · have h1 := S2.out.foot k hk; have h2 := S2.out.o1; have h3 := S2.out.o2; have h4 := List.mem_singleton.1 hm; omega
            · have h1 := S2.out.foot k hk; have h2 := S2.out.o1; have h3 := S2.out.o2; have h4 := S2.out.eb; omega
          have e7 : (od == 147) = false := beq_eq_false_iff_ne.2 h7
          by_cases h6 : od = 146
          · subst h6
            go_wp2_with fail
            refine (pick_any x.typ 13 _ (by omega) (by omega)).mono ?_
            rintro e wz ⟨rfl, rfl⟩
            dsimp only
            have S2 := hid (S.out.setTyp (pick x.typ 13))
            go_wp2_with (first | (refine wpList_load_row rfl 29 _ rfl bi rfl _ _ _ _ S2.out.bl Tryd.underlying29 rfl iSize ?_) | (refine wpList_store_obj rfl 29 _ _ rfl b rfl _ rfl _ _ S2.out.rs rfl iSize (arr_one _) ?_; intro w10 hb10 hc10 hs10; have HB10 := hid hb10; have HC10 := hid hc10; clear hb10 hc10 hs10))
            refine bodyPost_ret (results_cell_row rfl _ _ b _ _ _ _ rfl HB10.out Tryd.underlying29 rfl iSize) rfl ?_
            unfold TreeRes
            rw [HD.out]
            refine ⟨?_, _, rfl, ?_, ItV.ok.keep HC10.out S2.out.ok (fun k hk hm => ?_), fun k hk => ?_⟩
            · have h1 := S2.out.bel.trans (HC10.out.below (fun k hk => by rw [List.mem_singleton.1 hk]; exact Nat.le_refl _) (Nat.le_of_lt (block_lt S2.out.rs)))
              rw [S2.out.eb] at h1; exact h1
            · rw [if_neg (by decide), if_neg (by decide), if_neg (by decide), if_pos (by first | rfl | trivial), ← HVI.out, ItV.it_eq, ItV.it_eq]
            · have h1 := S2.out.foot k hk; have h2 := S2.out.o1; have h3 := S2.out.o2; have h4 := List.mem_singleton.1 hm; omega
            · have h1 := S2.out.foot k hk; have h2 := S2.out.o1; have h3 := S2.out.o2; have h4 := S2.out.eb; omega
          have e6 : (od == 146) = false := beq_eq_false_iff_ne.2 h6
          go_wp2_with (first | (refine wpList_load_row rfl 29 _ rfl bi rfl _ _ _ _ S.out.bl Tryd.underlying29 rfl iSize ?_) | (refine wpList_store_obj rfl 29 _ _ rfl b rfl _ rfl _ _ S.out.rs rfl iSize (arr_one _) ?_; intro w10 hb10 hc10 hs10; have HB10 := hid hb10; have HC10 := hid hc10; clear hb10 hc10 hs10))
          refine bodyPost_ret (results_cell_row rfl _ _ b _ _ _ _ rfl HB10.out Tryd.underlying29 rfl iSize) rfl ?_
          unfold TreeRes
          rw [HD.out]
          refine ⟨?_, _, rfl, ?_, ItV.ok.keep HC10.out S.out.ok (fun k hk hm => ?_), fun k hk => ?_⟩
          · have h1 := S.out.bel.trans (HC10.out.below (fun k hk => by rw [List.mem_singleton.1 hk]; exact Nat.le_refl _) (Nat.le_of_lt (block_lt S.out.rs)))
            rw [S.out.eb] at h1; exact h1
          · rw [if_neg h9, if_neg h8, if_neg h7, if_neg h6]; exact HVI.out
          · have h1 := S.out.foot k hk; have h2 := S.out.o1; have h3 := S.out.o2; have h4 := List.mem_singleton.1 hm; omega
          · have h1 := S.out.foot k hk; have h2 := S.out.o1; have h3 := S.out.o2; have h4 := S.out.eb; omega
end Go.Proofs.YtmpajhacigjloaaDoor
