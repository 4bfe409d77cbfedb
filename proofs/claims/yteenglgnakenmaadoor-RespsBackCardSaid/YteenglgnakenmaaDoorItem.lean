/- Items (ttlv.Item) as data, and in memory. -/
import Derived.Test.YteenglgnakenmaaDoorSl
import Derived.Test.YteenglgnakenmaaDoorAgg
namespace Go.Proofs.YteenglgnakenmaaDoor
open Go.RowKit
set_option linter.unusedVariables false
set_option linter.unusedSimpArgs false

/-- An item, as data. -/
structure Itm where
  tag : Int := 0
  typ : Int := 0
  int : Int := 0
  data : List UInt8 := []
  kids : List Itm := []
/-- An item with the places of its slices. -/
structure ItV where
  tag : Int := 0
  typ : Int := 0
  int : Int := 0
  data : List UInt8 := []
  ds : Sl := {}
  ks : Sl := {}
  kids : List ItV := []
instance : Inhabited Itm := ⟨{}⟩
instance : Inhabited ItV := ⟨{}⟩
/-- An item's five cells. -/
def ItV.arr (v : ItV) : Array Value := #[.int .i64 v.tag, .int .i64 v.typ, .int .i64 v.int, .slice v.ds.a v.ds.n v.ds.c, .slice v.ks.a v.ks.n v.ks.c]
def ItV.cells (v : ItV) : List Value := v.arr.toList
theorem ar0 (v : ItV) : v.arr[0]? = some (.int .i64 v.tag) := rfl
theorem ar1 (v : ItV) : v.arr[1]? = some (.int .i64 v.typ) := rfl
theorem ar2 (v : ItV) : v.arr[2]? = some (.int .i64 v.int) := rfl
theorem ar3 (v : ItV) : v.arr[3]? = some (.slice v.ds.a v.ds.n v.ds.c) := rfl
theorem ar4 (v : ItV) : v.arr[4]? = some (.slice v.ks.a v.ks.n v.ks.c) := rfl
def itmCells (l : List ItV) : List Value := l.flatMap ItV.cells
mutual
def ItV.it : ItV → Itm
  | ⟨t, y, i, d, _, _, k⟩ => ⟨t, y, i, d, itAll k⟩
def itAll : List ItV → List Itm
  | [] => []
  | v :: r => v.it :: itAll r
end
mutual
/-- What an item's slices read as, to the bottom. -/
def ItV.ok (w : World) : ItV → Prop
  | ⟨_, _, _, d, ds, ks, k⟩ => SlC w ds (d.map B8) ∧ SlR w ks 5 (itmCells k) ∧ okAll w k
def okAll (w : World) : List ItV → Prop
  | [] => True
  | v :: r => v.ok w ∧ okAll w r
end
mutual
/-- The blocks that an item reaches. -/
def ItV.foot : ItV → List Nat
  | ⟨_, _, _, _, ds, ks, k⟩ => ds.blk ++ (ks.blk ++ footAll k)
def footAll : List ItV → List Nat
  | [] => []
  | v :: r => v.foot ++ footAll r
end
theorem itAll_map (l : List ItV) : itAll l = l.map ItV.it := by
  induction l with
  | nil => rfl
  | cons v r ih => rw [itAll, ih]; rfl
theorem ItV.it_eq (v : ItV) : v.it = ⟨v.tag, v.typ, v.int, v.data, v.kids.map ItV.it⟩ := by
  obtain ⟨t, y, i, d, ds, ks, k⟩ := v
  rw [ItV.it, itAll_map]
theorem okAll_mem {w : World} {l : List ItV} : okAll w l ↔ ∀ v ∈ l, v.ok w := by
  induction l with
  | nil => simp [okAll]
  | cons v r ih => rw [okAll, ih]; simp
theorem ItV.ok_iff {w : World} {v : ItV} : v.ok w ↔ SlC w v.ds (v.data.map B8) ∧ SlR w v.ks 5 (itmCells v.kids) ∧ ∀ k ∈ v.kids, k.ok w := by
  obtain ⟨t, y, i, d, ds, ks, k⟩ := v
  rw [ItV.ok, okAll_mem]
theorem mem_footAll {l : List ItV} {k : Nat} : k ∈ footAll l ↔ ∃ v ∈ l, k ∈ v.foot := by
  induction l with
  | nil => simp [footAll]
  | cons v r ih => rw [footAll, List.mem_append, ih]; simp
theorem ItV.mem_foot {v : ItV} {k : Nat} : k ∈ v.foot ↔ k ∈ v.ds.blk ∨ k ∈ v.ks.blk ∨ ∃ x ∈ v.kids, k ∈ x.foot := by
  obtain ⟨t, y, i, d, ds, ks, l⟩ := v
  rw [ItV.foot, List.mem_append, List.mem_append, mem_footAll]
theorem sizeOf_kid {v x : ItV} (h : x ∈ v.kids) : SizeOf.sizeOf x < SizeOf.sizeOf v := by
  have := List.sizeOf_lt_of_mem h
  cases v; simp at *; omega
/-- To show of each item: by what holds of its kids. -/
theorem ItV.ind {C : ItV → Prop} (h : ∀ v, (∀ x ∈ v.kids, C x) → C v) : ∀ v, C v := by
  have : ∀ (n : Nat) (v : ItV), SizeOf.sizeOf v ≤ n → C v := by
    intro n
    induction n with
    | zero => intro v hv; cases v; simp at hv
    | succ n ih => intro v hv; exact h v fun x hx => ih x (by have := sizeOf_kid hx; omega)
  exact fun v => this _ v (Nat.le_refl _)
theorem ItV.ok.lt {w : World} {v : ItV} : v.ok w → ∀ k ∈ v.foot, k < w.heap.size := by
  refine ItV.ind (C := fun v => v.ok w → ∀ k ∈ v.foot, k < w.heap.size) (fun v ih h k hk => ?_) v
  obtain ⟨h1, h2, h3⟩ := ok_iff.1 h
  rcases mem_foot.1 hk with h' | h' | ⟨x, hx, h'⟩
  · exact h1.lt k h'
  · exact h2.lt k h'
  · exact ih x hx (h3 x hx) k h'
theorem ItV.ok.keep {w w' : World} {G : List Nat} (hc : Chg G w w') {v : ItV} : v.ok w → Disj v.foot G → v.ok w' := by
  refine ItV.ind (C := fun v => v.ok w → Disj v.foot G → v.ok w') (fun v ih h hd => ?_) v
  obtain ⟨h1, h2, h3⟩ := ok_iff.1 h
  exact ok_iff.2 ⟨h1.keep hc (fun k hk => hd k (mem_foot.2 (.inl hk))), h2.keep hc (fun k hk => hd k (mem_foot.2 (.inr (.inl hk)))),
    fun x hx => ih x hx (h3 x hx) (fun k hk => hd k (mem_foot.2 (.inr (.inr ⟨x, hx, hk⟩))))⟩
theorem ItV.ok.below {w w' : World} {v : ItV} (h : v.ok w) (hb : Below w.heap.size w w') : v.ok w' :=
  ItV.ok.keep (Chg.of_below hb []) h (fun _ _ hm => by cases hm)
theorem itm_len (l : List ItV) : (itmCells l).length = l.length * 5 := by
  induction l with
  | nil => rfl
  | cons v r ih => simp only [itmCells, List.flatMap_cons, List.length_append, List.length_cons]; have : v.cells.length = 5 := rfl; rw [this]; unfold itmCells at ih; rw [ih]; omega
theorem itm_app (l r : List ItV) : itmCells (l ++ r) = itmCells l ++ itmCells r := by unfold itmCells; rw [List.flatMap_append]
theorem itm_one (l : List ItV) : ∀ u ∈ itmCells l, u.oneCell' = true := by
  intro u hu
  obtain ⟨x, _, hx⟩ := List.mem_flatMap.1 hu
  simp [ItV.cells, ItV.arr] at hx
  rcases hx with rfl | rfl | rfl | rfl | rfl <;> rfl
theorem itm_get (l : List ItV) : ∀ (k j : Nat) (v : ItV), l[k]? = some v → j < 5 → (itmCells l)[k * 5 + j]? = v.cells[j]? := by
  induction l with
  | nil => intro k j v h; simp at h
  | cons x r ih =>
    intro k j v h hj
    have e : itmCells (x :: r) = x.cells ++ itmCells r := rfl
    have hl : x.cells.length = 5 := rfl
    cases k with
    | zero =>
      simp at h; subst h
      rw [e, List.getElem?_append_left (by omega)]
      simp
    | succ k =>
      rw [e, List.getElem?_append_right (by omega), ← ih k j v (by simpa using h) hj]
      congr 1; omega
theorem SlR.klen {w : World} {s : Sl} {l : List ItV} (h : SlR w s 5 (itmCells l)) : l.length = s.n := by
  have := h.rd.len; rw [itm_len] at this; omega
/-- The k-th kid's five cells. -/
theorem SlR.kid {w : World} {s : Sl} {l : List ItV} (h : SlR w s 5 (itmCells l)) {k : Nat} (hk : k < s.n) :
    ∃ b off v, s.a = some ⟨b, off, none⟩ ∧ l[k]? = some v ∧ w.cell? ⟨b, off + k * 5, none⟩ = some (.int .i64 v.tag) ∧ w.cell? ⟨b, off + k * 5 + 1, none⟩ = some (.int .i64 v.typ) ∧ w.cell? ⟨b, off + k * 5 + 2, none⟩ = some (.int .i64 v.int) ∧
      w.cell? ⟨b, off + k * 5 + 3, none⟩ = some (.slice v.ds.a v.ds.n v.ds.c) ∧ w.cell? ⟨b, off + k * 5 + 4, none⟩ = some (.slice v.ks.a v.ks.n v.ks.c) := by
  have hl := h.klen
  obtain ⟨b, off, ha, hc⟩ := h.rd.cell 0 (by omega)
  have hv : l[k]? = some (l[k]'(by omega)) := List.getElem?_eq_getElem _
  have g := fun j (hj : j < 5) u hu => hc (k * 5 + j) u ((itm_get l k j _ hv hj).trans hu)
  exact ⟨b, off, l[k]'(by omega), ha, hv, g 0 (by omega) _ rfl, by have := g 1 (by omega) _ rfl; rwa [← Nat.add_assoc] at this, by have := g 2 (by omega) _ rfl; rwa [← Nat.add_assoc] at this,
    by have := g 3 (by omega) _ rfl; rwa [← Nat.add_assoc] at this, by have := g 4 (by omega) _ rfl; rwa [← Nat.add_assoc] at this⟩
theorem SlR.nil (w : World) (size : Nat) : SlR w {} size [] := ⟨⟨by simp, fun j hj => by simp at hj⟩, fun _ => rfl, by simp, fun k hk => by simp [Sl.blk] at hk, Nat.le_refl _⟩
theorem SlC.lenB {w : World} {s : Sl} {l : List UInt8} (h : SlC w s (l.map B8)) : l.length = s.n := by have := h.rd.len; simpa using this
theorem RdC.rdB {w : World} {a : Option Addr} {n : Nat} {l : List UInt8} (h : RdC w a n (l.map B8)) : RdB w a n l := by
  have hl : l.length = n := by simpa using h.len
  refine ⟨hl, fun j hj => ?_⟩
  obtain ⟨b, off, ha, hc⟩ := h.cell j hj
  refine ⟨b, off, ha, fun i hi => hc i _ ?_⟩
  rw [List.getElem?_map, List.getD_eq_getElem?_getD, List.getElem?_eq_getElem (by omega)]; rfl
theorem SlC.rdB {w : World} {s : Sl} {l : List UInt8} (h : SlC w s (l.map B8)) : RdB w s.a s.n l := h.rd.rdB
/-- The k-th kid, whole. -/
theorem SlR.row {w : World} {s : Sl} {l : List ItV} (h : SlR w s 5 (itmCells l)) {k : Nat} (hk : k < s.n) :
    ∃ b off v, s.a = some ⟨b, off, none⟩ ∧ l[k]? = some v ∧ w.rangeAt b (off + k * 5) v.cells := by
  have hl := h.klen
  obtain ⟨b, off, ha, hc⟩ := h.rd.cell 0 (by omega)
  have hv : l[k]? = some (l[k]'(by omega)) := List.getElem?_eq_getElem _
  refine ⟨b, off, l[k]'(by omega), ha, hv, fun j u hu => ?_⟩
  have hj : j < 5 := (List.getElem?_eq_some_iff.1 hu).1
  rw [Nat.add_assoc]
  exact hc (k * 5 + j) u ((itm_get l k j _ hv hj).trans hu)
/-- A row of items of the call's own; low: the least block that they reach. -/
structure OwnIt (T : TypeId) (w : World) (base low : Nat) (s : Sl) (l : List ItV) : Prop where
  own : w.ownsRow base T 5 (.slice s.a s.n s.c) s.n (itmCells l)
  ok : ∀ x ∈ l, x.ok w
  apart : ∀ x ∈ l, ∀ k ∈ x.foot, s.v.ownBlock ≠ some k
  low : ∀ x ∈ l, ∀ k ∈ x.foot, low ≤ k
section
variable {T : TypeId} {w w' : World} {base low : Nat} {s : Sl} {l : List ItV}
theorem OwnIt.nil (T : TypeId) (w : World) (base low : Nat) : OwnIt T w base low {} [] := ⟨World.ownsRow_nil w base T 5, by simp, by simp, by simp⟩
theorem OwnIt.chg (h : OwnIt T w base low s l) {G : List Nat} (hc : Chg G w w') (hb : ∀ k, s.v.ownBlock = some k → k ∉ G) (hd : ∀ x ∈ l, Disj x.foot G) : OwnIt T w' base low s l :=
  ⟨hc.owns h.own hb, fun x hx => ItV.ok.keep hc (h.ok x hx) (hd x hx), h.apart, h.low⟩
theorem OwnIt.below (h : OwnIt T w base low s l) (hb : Below w.heap.size w w') : OwnIt T w' base low s l :=
  h.chg (Chg.of_below hb []) (fun k _ hm => by cases hm) (fun x _ k _ hm => by cases hm)
theorem OwnIt.len (h : OwnIt T w base low s l) : l.length = s.n := by have := h.own.1; rw [itm_len] at this; omega
theorem OwnIt.sl (h : OwnIt T w base low s l) (hn : s.n ≤ 1099511627776) : SlR w s 5 (itmCells l) := SlR.of_own h.own hn
theorem OwnIt.blk (h : OwnIt T w base low s l) : ∀ k ∈ s.blk, base ≤ k := blk_own h.own
theorem OwnIt.ahead (h : OwnIt T w base low s l) {k : Nat} (hk : k < base) : k ∉ s.v.ownBlock.toList := fun hm => by
  have hk' : s.v.ownBlock = some k := by cases hv : s.v.ownBlock with
    | none => rw [hv] at hm; cases hm
    | some y => rw [hv] at hm; simp at hm; rw [hm]
  have := (h.own.lt k hk').1
  omega
theorem OwnIt.app {W : World} (h : OwnIt T w base low s l) (hW : Below w.heap.size w W) (y : ItV) (hy : y.ok w) (hap : ∀ k ∈ y.foot, s.v.ownBlock ≠ some k) (hlow : ∀ k ∈ y.foot, low ≤ k) {a : Option Addr} {n c : Nat}
    (ho : w'.ownsRow base T 5 (.slice a n c) n (itmCells (l ++ [y]))) (hg : W.grownBy w' s.v.ownBlock) (hf : (Value.slice a n c).ownBlock = s.v.ownBlock ∨ ∀ k, (Value.slice a n c).ownBlock = some k → W.heap.size ≤ k) : OwnIt T w' base low ⟨a, n, c⟩ (l ++ [y]) := by
  have hc : Chg s.v.ownBlock.toList w w' := (Chg.of_below hW _).grown hg (fun k hk => .inl (by rw [hk]; simp))
  have hdis : ∀ x : ItV, (∀ k ∈ x.foot, s.v.ownBlock ≠ some k) → Disj x.foot s.v.ownBlock.toList := fun x hx k hk hm => by
    cases hv : s.v.ownBlock with
    | none => rw [hv] at hm; cases hm
    | some z => rw [hv] at hm; simp at hm; subst hm; exact hx k hk hv
  have key : ∀ x ∈ l ++ [y], x.ok w ∧ (∀ k ∈ x.foot, s.v.ownBlock ≠ some k) ∧ ∀ k ∈ x.foot, low ≤ k := by
    intro x hx
    rcases List.mem_append.1 hx with h' | h'
    · exact ⟨h.ok x h', h.apart x h', h.low x h'⟩
    · rw [List.mem_singleton.1 h']; exact ⟨hy, hap, hlow⟩
  refine ⟨ho, fun x hx => ItV.ok.keep hc (key x hx).1 (hdis x (key x hx).2.1), fun x hx k hk => ?_, fun x hx => (key x hx).2.2⟩
  rcases hf with h' | h'
  · rw [show Sl.v ⟨a, n, c⟩ = Value.slice a n c from rfl, h']; exact (key x hx).2.1 k hk
  · intro he
    have h1 := h' k he
    have h2 := (key x hx).1.lt k hk
    have h3 := hW.size
    omega
end
/-- The empty item. -/
theorem ItV.ok.zero (w : World) (t y i : Int) : ItV.ok w { tag := t, typ := y, int := i } := ok_iff.2 ⟨SlC.nil w, SlR.nil w 5, fun k hk => by cases hk⟩
end Go.Proofs.YteenglgnakenmaaDoor
