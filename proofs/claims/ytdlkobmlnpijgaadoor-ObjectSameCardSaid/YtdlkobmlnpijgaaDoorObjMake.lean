/- locksmithhand.Object: what it makes, as data; its first statements. -/
import Derived.Test.YtdlkobmlnpijgaaDoorObjHand
import Derived.Test.YtdlkobmlnpijgaaDoorOpen
import Derived.Test.YtdlkobmlnpijgaaDoorLife2
namespace Go.Proofs.YtdlkobmlnpijgaaDoor
open Go.RowKit
set_option linter.unusedVariables false
set_option linter.unusedSimpArgs false
set_option maxRecDepth 100000
set_option maxHeartbeats 4000000

def typL : List Int := [2, 2, 3, 4, 7]
def algL : List Int := [3, 3, 0, 4]
def maskL : List Int := [396, 12, 4, 384, 0]
def matL : List Nat := [16, 16, 32, 0, 24]
def matN (k : Nat) : Nat := matL.getD k 0
def objInit (x : RawD) : ObjD :=
  { id := handId x.a, typ := typL.getD (pickN x.b 5) 0, alg := algL.getD (pickN x.c 4) 0, len := 128, mask := maskL.getD (pickN (x.a.tdiv 12) 5) 0,
    mat := handBytes (matN (pickN (x.b.tdiv 5) 5)) x.c, st := 1 + pick x.kind 6 }
def nameL : List ByteArray := [⟨#[111, 110, 101]⟩, ⟨#[116, 119, 111]⟩, ⟨#[116, 104, 114, 101, 101]⟩, ⟨#[102, 111, 117, 114]⟩, ⟨#[102, 105, 118, 101]⟩]
def custNL : List ByteArray := [⟨#[120, 45, 97]⟩, ⟨#[120, 45, 98]⟩]
def custTL : List ByteArray := [⟨#[111, 110, 101]⟩, ⟨#[116, 119, 111]⟩, ⟨#[116, 104, 114, 101, 101]⟩, ⟨#[102, 111, 117, 114]⟩]
def msgL : List ByteArray := [⟨#[]⟩, ⟨#[109]⟩, ⟨#[108, 111, 115, 116]⟩]
def nameOf (y : RawD) : ByteArray := nameL.getD (pickN y.a 5) ⟨#[]⟩
def linkOf (y : RawD) : Int × ByteArray := (101 + pick y.a 5, handId y.b)
def custOf (y : RawD) : ByteArray × ByteArray := (custNL.getD (pickN y.a 2) ⟨#[]⟩, custTL.getD (pickN y.b 4) ⟨#[]⟩)
def strEq (x y : ByteArray) : Bool := x.toList == y.toList
theorem strEq_iff {x y : ByteArray} : strEq x y = true ↔ x = y := by
  unfold strEq
  constructor
  · intro h
    rcases Classical.em (x = y) with e | e
    · exact e
    · rw [bytes_ne e] at h; cases h
  · rintro rfl; simp
def strMem (x : ByteArray) (l : List ByteArray) : Bool := l.any fun y => strEq y x
def linkMem (x : Int × ByteArray) (l : List (Int × ByteArray)) : Bool := l.any fun y => y.1 == x.1 && strEq y.2 x.2
def custMem (x : ByteArray × ByteArray) (l : List (ByteArray × ByteArray)) : Bool := l.any fun y => strEq y.1 x.1 && strEq y.2 x.2
theorem strMem_iff {x : ByteArray} {l : List ByteArray} : strMem x l = true ↔ x ∈ l := by
  unfold strMem
  rw [List.any_eq_true]
  constructor
  · rintro ⟨y, hy, he⟩; rw [strEq_iff] at he; exact he ▸ hy
  · intro h; exact ⟨x, h, strEq_iff.2 rfl⟩
/-- One more part of an object. -/
def objStep (O : ObjD) (y : RawD) : ObjD :=
  if pickN y.kind 9 ≤ 2 then O.setDate (pickN y.a 10) (true, pick y.b 60)
  else if pickN y.kind 9 = 3 then (if strMem (nameOf y) O.names = true then O else { O with names := O.names ++ [nameOf y] })
  else if pickN y.kind 9 = 4 then (if linkMem (linkOf y) O.links = true then O else { O with links := O.links ++ [linkOf y] })
  else if pickN y.kind 9 = 5 then { O with limHas := true, total := 1 + pick y.a 50, count := 1 + pick y.a 50 - pick y.b (1 + pick y.a 50 + 1), unit := 1 + pick y.c 2 }
  else if pickN y.kind 9 = 6 then (if custMem (custOf y) O.custom = true ∨ 6 ≤ O.custom.length then O else { O with custom := O.custom ++ [custOf y] })
  else if pickN y.kind 9 = 7 then { O with reason := 1 + pick y.a 7, msg := msgL.getD (pickN y.b 3) ⟨#[]⟩ }
  else { O with arch := decide (y.a.tmod 3 = 0) }
/-- The object of raw numbers. -/
def objRaw (x : RawD) (l : List RawD) : ObjD :=
  let O := (l.take 10).foldl objStep ((objInit x).setDate 0 (true, pick x.c 20))
  { O with links := O.links.take 8 }

theorem tdiv_in (a m : Int) (hm : 1 ≤ m) (h : -9223372036854775808 ≤ a ∧ a ≤ 9223372036854775807) : -9223372036854775808 ≤ a.tdiv m ∧ a.tdiv m ≤ 9223372036854775807 := by
  rcases Int.le_total 0 a with h0 | h0
  · rw [Int.tdiv_eq_ediv_of_nonneg h0]
    have h1 := Int.ediv_nonneg h0 (show 0 ≤ m by omega)
    have h2 := Int.ediv_le_self m h0
    omega
  · have e : a.tdiv m = -((-a).tdiv m) := by rw [Int.neg_tdiv, Int.neg_neg]
    rw [e, Int.tdiv_eq_ediv_of_nonneg (by omega)]
    have h1 := Int.ediv_nonneg (show 0 ≤ -a by omega) (show 0 ≤ m by omega)
    have h2 := Int.ediv_le_self m (show 0 ≤ -a by omega)
    omega

def RawR (cs : List Value) (y : RawD) : Prop := cs = y.cells.toList ∧ y.ok
theorem raw_get {w : World} {aL : Option Addr} {nL cL : Nat} {l : List RawD} (h : ArgSl 4 RawR w (.slice aL nL cL) l) {k : Nat} (hk : k < nL) :
    ∃ b off y, aL = some ⟨b, off, none⟩ ∧ l[k]? = some y ∧ y.ok ∧ w.cell? ⟨b, off + k * 4, none⟩ = some (.int .i64 y.kind) ∧ w.cell? ⟨b, off + k * 4 + 1, none⟩ = some (.int .i64 y.a) ∧ w.cell? ⟨b, off + k * 4 + 2, none⟩ = some (.int .i64 y.b) ∧ w.cell? ⟨b, off + k * 4 + 3, none⟩ = some (.int .i64 y.c) := by
  obtain ⟨a, n, c, hv, hl, _, _, _, hc⟩ := h
  simp only [Value.slice.injEq] at hv
  obtain ⟨rfl, rfl, rfl⟩ := hv
  obtain ⟨b, off, cs, ha, h1, h2, h3, h4⟩ := hc k hk
  refine ⟨b, off, l.getD k default, ha, ?_, h4, ?_, ?_, ?_, ?_⟩
  · rw [List.getD_eq_getElem?_getD, List.getElem?_eq_getElem (by omega)]; rfl
  · have := h2 0 (by omega); rw [h3] at this; exact this
  · have := h2 1 (by omega); rw [h3] at this; exact this
  · have := h2 2 (by omega); rw [h3] at this; exact this
  · have := h2 3 (by omega); rw [h3] at this; exact this
theorem argSl_len {w : World} {aL : Option Addr} {nL cL : Nat} {l : List RawD} (h : ArgSl 4 RawR w (.slice aL nL cL) l) : l.length = nL ∧ nL ≤ 140737488355328 := by
  obtain ⟨a, n, c, hv, hl, h1, h2, _⟩ := h
  simp only [Value.slice.injEq] at hv
  obtain ⟨rfl, rfl, rfl⟩ := hv
  exact ⟨hl, by omega⟩
/-- What stands while the object is made: b0 the box of x, b0 + 1 the result's room, b5 the object. -/
structure HObj (w W : World) (x : RawD) (b0 b5 : Nat) (O : ObjD) (s : ObjV) : Prop where
  raw : W.heap[b0]? = some (.cells x.cells 41 (0, 0))
  res : W.heap[b0 + 1]? = some (.cells (objCells zObj zObjV) 35 (0, 0))
  obj : W.heap[b5]? = some (.cells (objCells O s) 35 (0, 0))
  bel : Below b0 w W
  lt : b0 + 2 ≤ b5
  mat : W.ownsRow (b0 + 2) 5 1 s.mat.v s.mat.n (O.mat.map B8)
  matb : s.mat.v.ownBlock ≠ some b5
  names : W.ownsRow (b5 + 1) 9 1 s.names.v s.names.n (O.names.map Value.string)
  links : W.ownsRow (b5 + 1) 56 2 s.links.v s.links.n (linkCells O.links)
  custom : W.ownsRow (b5 + 1) 58 2 s.custom.v s.custom.n (custCells O.custom)
  dl : O.dates.length = 10
  ml : s.mat.n ≤ 32
theorem links_take (l : List (Int × ByteArray)) : ∀ k, (linkCells l).take (k * 2) = linkCells (l.take k) := by
  induction l with
  | nil => intro k; simp [linkCells]
  | cons y l ih =>
    intro k
    cases k with
    | zero => rfl
    | succ k =>
      have := ih k
      unfold linkCells at *
      rw [show (k + 1) * 2 = k * 2 + 2 by omega]
      simp only [List.flatMap_cons, List.take_succ_cons, List.cons_append, List.nil_append, this]
theorem objStep_len (O : ObjD) (y : RawD) : (objStep O y).names.length ≤ O.names.length + 1 ∧ (objStep O y).links.length ≤ O.links.length + 1 ∧ (objStep O y).custom.length ≤ O.custom.length + 1 := by
  unfold objStep
  repeat' split
  all_goals simp [ObjD.setDate]
theorem fold_len (l : List RawD) : ∀ O : ObjD, (l.foldl objStep O).names.length ≤ O.names.length + l.length ∧ (l.foldl objStep O).links.length ≤ O.links.length + l.length ∧ (l.foldl objStep O).custom.length ≤ O.custom.length + l.length := by
  induction l with
  | nil => intro O; simp
  | cons y l ih =>
    intro O
    have h1 := ih (objStep O y)
    have h2 := objStep_len O y
    simp only [List.foldl_cons, List.length_cons]
    omega
theorem fold_len10 (l : List RawD) (O : ObjD) (x : RawD) (k : Nat) (hk : k ≤ 10) (hO : (objInit x).setDate 0 (true, pick x.c 20) = O) : ((l.take k).foldl objStep O).names.length ≤ 10 ∧ ((l.take k).foldl objStep O).links.length ≤ 10 ∧ ((l.take k).foldl objStep O).custom.length ≤ 10 := by
  have h := fold_len (l.take k) O
  have hl : (l.take k).length ≤ k := by rw [List.length_take]; omega
  subst hO
  have e1 : ((objInit x).setDate 0 (true, pick x.c 20)).names = [] := rfl
  have e2 : ((objInit x).setDate 0 (true, pick x.c 20)).links = [] := rfl
  have e3 : ((objInit x).setDate 0 (true, pick x.c 20)).custom = [] := rfl
  rw [e1, e2, e3] at h
  simp only [List.length_nil] at h
  omega
section
variable {w W W' : World} {x : RawD} {b0 b5 : Nat} {O O' : ObjD} {s : ObjV}
theorem HObj.size (h : HObj w W x b0 b5 O s) : b5 < W.heap.size := block_lt h.obj
theorem HObj.below (h : HObj w W x b0 b5 O s) (hb : Below W.heap.size W W') : HObj w W' x b0 b5 O s :=
  have hc := Chg.of_below hb []
  ⟨(hb.block _ (block_lt h.raw)).trans h.raw, (hb.block _ (block_lt h.res)).trans h.res, (hb.block _ h.size).trans h.obj, h.bel.trans (hb.mono (by have := h.size; have := h.lt; omega)), h.lt,
    hc.owns h.mat (fun k _ hm => by cases hm), h.matb, hc.owns h.names (fun k _ hm => by cases hm), hc.owns h.links (fun k _ hm => by cases hm), hc.owns h.custom (fun k _ hm => by cases hm), h.dl, h.ml⟩
theorem own_above {W : World} {b5 : Nat} {T : TypeId} {size n : Nat} {v : Value} {xs : List Value} (h : W.ownsRow (b5 + 1) T size v n xs) : ∀ k, v.ownBlock = some k → k ∉ [b5] := fun k hk hm => by
  have := (h.lt k hk).1
  have := List.mem_singleton.1 hm
  omega
theorem HObj.store (h : HObj w W x b0 b5 O s) (h1 : W'.heap[b5]? = some (.cells (objCells O' s) 35 (0, 0))) (hc : Chg [b5] W W') (e1 : O'.mat = O.mat) (e2 : O'.names = O.names) (e3 : O'.links = O.links) (e4 : O'.custom = O.custom) (e5 : O'.dates.length = 10) : HObj w W' x b0 b5 O' s := by
  have hne : b0 ∉ [b5] := by have := h.lt; simp; omega
  have hne1 : b0 + 1 ∉ [b5] := by have := h.lt; simp; omega
  refine ⟨(hc.block _ (block_lt h.raw) hne).trans h.raw, (hc.block _ (block_lt h.res) hne1).trans h.res, h1, h.bel.trans (hc.below (fun k hk => by have := h.lt; rw [List.mem_singleton.1 hk]; omega) (by have := h.size; have := h.lt; omega)), h.lt, ?_, h.matb, ?_, ?_, ?_, e5, h.ml⟩
  · rw [e1]; exact hc.owns h.mat (fun k hk hm => h.matb (by rw [hk, List.mem_singleton.1 hm]))
  · rw [e2]; exact hc.owns h.names (own_above h.names)
  · rw [e3]; exact hc.owns h.links (own_above h.links)
  · rw [e4]; exact hc.owns h.custom (own_above h.custom)
theorem HObj.set (h : HObj w W x b0 b5 O s) (j : Nat) (v : Value) (he : (objCells O s).setIfInBounds j v = objCells O' s) (e1 : O'.mat = O.mat) (e2 : O'.names = O.names) (e3 : O'.links = O.links) (e4 : O'.custom = O.custom) (e5 : O'.dates.length = 10) :
    HObj w (W.setCell ⟨b5, j, none⟩ v) x b0 b5 O' s :=
  h.store (he ▸ block_setCell h.obj v) ((Chg.refl [b5] W).setCell (.inl (by simp)) v) e1 e2 e3 e4 e5
theorem HObj.date (h : HObj w W x b0 b5 O s) (i : Nat) (hi : i < 10) (y : Bool) (t : Int) : HObj w ((W.setCell ⟨b5, 7 + i * 2, none⟩ (.bool y)).setCell ⟨b5, 7 + i * 2 + 1, none⟩ (.int .i64 t)) x b0 b5 (O.setDate i (y, t)) s := by
  refine h.store ?_ (((Chg.refl [b5] W).setCell (.inl (by simp)) _).setCell (.inl (by simp)) _) rfl rfl rfl rfl (by rw [setDate_len]; exact h.dl)
  rw [← osD O s h.dl i hi]
  exact block_setCell (block_setCell h.obj _) _
theorem HObj.cut_links (h : HObj w W x b0 b5 O s) (k : Nat) (hk : k ≤ s.links.n) : HObj w (W.setCell ⟨b5, 30, none⟩ (.slice s.links.a k s.links.c)) x b0 b5 { O with links := O.links.take k } { s with links := ⟨s.links.a, k, s.links.c⟩ } := by
  have hc : Chg [b5] W (W.setCell ⟨b5, 30, none⟩ (.slice s.links.a k s.links.c)) := (Chg.refl [b5] W).setCell (.inl (by simp)) _
  have hne : b0 ∉ [b5] := by have := h.lt; simp; omega
  have hne1 : b0 + 1 ∉ [b5] := by have := h.lt; simp; omega
  refine ⟨(hc.block _ (block_lt h.raw) hne).trans h.raw, (hc.block _ (block_lt h.res) hne1).trans h.res, ?_, h.bel.trans (hc.below (fun k hk => by have := h.lt; rw [List.mem_singleton.1 hk]; omega) (by have := h.size; have := h.lt; omega)), h.lt, ?_, h.matb, ?_, ?_, ?_, h.dl, h.ml⟩
  · have := block_setCell (j := 30) h.obj (.slice s.links.a k s.links.c)
    rw [os30] at this; exact this
  · exact hc.owns h.mat (fun k hk hm => h.matb (by rw [hk, List.mem_singleton.1 hm]))
  · exact hc.owns h.names (own_above h.names)
  · have := own_take (hc.owns h.links (own_above h.links)) hk
    rw [links_take] at this
    exact this
  · exact hc.owns h.custom (own_above h.custom)
theorem HObj.lim (h : HObj w W x b0 b5 O s) (y : Bool) (t c u : Int) : HObj w ((((W.setCell ⟨b5, 32, none⟩ (.bool y)).setCell ⟨b5, 33, none⟩ (.int .i64 t)).setCell ⟨b5, 34, none⟩ (.int .i64 c)).setCell ⟨b5, 35, none⟩ (.int .i64 u)) x b0 b5 { O with limHas := y, total := t, count := c, unit := u } s := by
  refine h.store ?_ (((((Chg.refl [b5] W).setCell (.inl (by simp)) _).setCell (.inl (by simp)) _).setCell (.inl (by simp)) _).setCell (.inl (by simp)) _) rfl rfl rfl rfl h.dl
  rw [← osL]
  exact block_setCell (block_setCell (block_setCell (block_setCell h.obj _) _) _) _
theorem HObj.cell (h : HObj w W x b0 b5 O s) {j : Nat} {v : Value} (hv : (objCells O s)[j]? = some v) : W.cell? ⟨b5, j, none⟩ = some v := cell_of_block h.obj hv
theorem HObj.fz (h : HObj w W x b0 b5 O s) (j : Nat) : W.frozen? ⟨b5, j, none⟩ = false := frozen_of_block h.obj
theorem two_apart {W : World} {b T T' size size' n n' b' : Nat} {v v' : Value} {xs xs' : List Value} (h : W.ownsRow b T size v n xs) (h' : W.ownsRow b' T' size' v' n' xs') (hT : T ≠ T') : ∀ k, v'.ownBlock = some k → k ∉ v.ownBlock.toList := fun k hk hm => by
  have hk' : v.ownBlock = some k := by cases hv : v.ownBlock with
    | none => rw [hv] at hm; cases hm
    | some y => rw [hv] at hm; simp at hm; rw [hm]
  exact typ_ne h h' hT hk' hk
theorem HObj.done (h : HObj w W x b0 b5 O s) (h1 : s.names.n ≤ 10) (h2 : s.links.n ≤ 10) (h3 : s.custom.n ≤ 10) (hc : Chg [b0 + 1] W W') : ObjM W' O s ∧ (∀ k ∈ s.foot, b0 ≤ k) ∧ Below b0 w W' := by
  have hm := h.lt
  have hd : ∀ {v : Sl} {T size : Nat} {xs : List Value} {B : Nat}, W.ownsRow B T size v.v v.n xs → b0 + 2 ≤ B → Disj v.blk [b0 + 1] := fun ho hB k hk hm => by
    have := blk_own ho k hk
    have := List.mem_singleton.1 hm
    omega
  refine ⟨⟨(SlR.of_own h.mat (by have := h.ml; omega)).keep hc (hd h.mat (Nat.le_refl _)), (SlR.of_own h.names (by omega)).keep hc (hd h.names (by omega)), (SlR.of_own h.links (by omega)).keep hc (hd h.links (by omega)), (SlR.of_own h.custom (by omega)).keep hc (hd h.custom (by omega)), h.dl⟩, ?_, ?_⟩
  · intro k hk
    rcases mem_foot.1 hk with h' | h' | h' | h'
    · have := blk_own h.mat k h'; omega
    · have := blk_own h.names k h'; omega
    · have := blk_own h.links k h'; omega
    · have := blk_own h.custom k h'; omega
  · exact h.bel.trans (hc.below (fun k hk => by rw [List.mem_singleton.1 hk]; omega) (by have := h.size; omega))
theorem HObj.grown5 (h : HObj w W x b0 b5 O s) {e : TypeId} {size n : Nat} {v : Value} {xs : List Value} (ho : W.ownsRow (b5 + 1) e size v n xs) {o : Obj} (hg : (W.alloc o).grownBy W' v.ownBlock) : W'.heap[b5]? = some (.cells (objCells O s) 35 (0, 0)) := by
  have hc : Chg v.ownBlock.toList W W' := ((Chg.refl _ W).alloc o).grown hg (fun k hk => .inl (by rw [hk]; simp))
  exact (hc.block _ h.size (fun hm => by
    cases hv : v.ownBlock with
    | none => rw [hv] at hm; cases hm
    | some z => rw [hv] at hm; simp at hm; have := (ho.lt z hv).1; omega)).trans h.obj
theorem HObj.app_names (h : HObj w W x b0 b5 O s) (y : ByteArray) (o : Obj) (a : Option Addr) (n c : Nat) (hg : (W.alloc o).grownBy W' s.names.v.ownBlock)
    (ho : W'.ownsRow (b5 + 1) 9 1 (.slice a n c) n ((O.names ++ [y]).map Value.string)) : HObj w (W'.setCell ⟨b5, 29, none⟩ (.slice a n c)) x b0 b5 { O with names := O.names ++ [y] } { s with names := ⟨a, n, c⟩ } := by
  have hc : Chg s.names.v.ownBlock.toList W W' := ((Chg.refl _ W).alloc o).grown hg (fun k hk => .inl (by rw [hk]; simp))
  have hlow : ∀ k, k ≤ b5 → k ∉ s.names.v.ownBlock.toList := fun k hk hm => by
    cases hv : s.names.v.ownBlock with
    | none => rw [hv] at hm; cases hm
    | some z => rw [hv] at hm; simp at hm; have := (h.names.lt z hv).1; omega
  have hlt := h.lt
  have h5 : W'.heap[b5]? = some (.cells (objCells O s) 35 (0, 0)) := (hc.block _ h.size (hlow b5 (Nat.le_refl _))).trans h.obj
  refine ⟨?_, ?_, ?_, ?_, h.lt, ?_, h.matb, ?_, ?_, ?_, h.dl, h.ml⟩
  · rw [block_setCell_other (by omega)]; exact (hc.block _ (block_lt h.raw) (hlow b0 (by omega))).trans h.raw
  · rw [block_setCell_other (by omega)]; exact (hc.block _ (block_lt h.res) (hlow (b0 + 1) (by omega))).trans h.res
  · have := block_setCell (j := 29) h5 (.slice a n c)
    rw [os29] at this; exact this
  · exact (h.bel.trans (hc.below (fun k hk => by
      rcases Nat.lt_or_ge k b0 with h' | h'
      · exact absurd hk (hlow k (by omega))
      · exact h') (by have := h.size; omega))).setCell (by simp; omega) _
  · exact ((Chg.refl [b5] W').setCell (p := ⟨b5, 29, none⟩) (.inl (by simp)) (.slice a n c)).owns (hc.owns h.mat (two_apart h.names h.mat (by decide))) (fun k hk hm => h.matb (by rw [hk, List.mem_singleton.1 hm]))
  · exact ownsRow_setCell_below ho (by simp) _
  · exact ownsRow_setCell_below (hc.owns h.links (two_apart h.names h.links (by decide))) (by simp) _
  · exact ownsRow_setCell_below (hc.owns h.custom (two_apart h.names h.custom (by decide))) (by simp) _
theorem HObj.app_links (h : HObj w W x b0 b5 O s) (y : Int × ByteArray) (o : Obj) (a : Option Addr) (n c : Nat) (hg : (W.alloc o).grownBy W' s.links.v.ownBlock)
    (ho : W'.ownsRow (b5 + 1) 56 2 (.slice a n c) n (linkCells (O.links ++ [y]))) : HObj w (W'.setCell ⟨b5, 30, none⟩ (.slice a n c)) x b0 b5 { O with links := O.links ++ [y] } { s with links := ⟨a, n, c⟩ } := by
  have hc : Chg s.links.v.ownBlock.toList W W' := ((Chg.refl _ W).alloc o).grown hg (fun k hk => .inl (by rw [hk]; simp))
  have hlow : ∀ k, k ≤ b5 → k ∉ s.links.v.ownBlock.toList := fun k hk hm => by
    cases hv : s.links.v.ownBlock with
    | none => rw [hv] at hm; cases hm
    | some z => rw [hv] at hm; simp at hm; have := (h.links.lt z hv).1; omega
  have hlt := h.lt
  have h5 : W'.heap[b5]? = some (.cells (objCells O s) 35 (0, 0)) := (hc.block _ h.size (hlow b5 (Nat.le_refl _))).trans h.obj
  refine ⟨?_, ?_, ?_, ?_, h.lt, ?_, h.matb, ?_, ?_, ?_, h.dl, h.ml⟩
  · rw [block_setCell_other (by omega)]; exact (hc.block _ (block_lt h.raw) (hlow b0 (by omega))).trans h.raw
  · rw [block_setCell_other (by omega)]; exact (hc.block _ (block_lt h.res) (hlow (b0 + 1) (by omega))).trans h.res
  · have := block_setCell (j := 30) h5 (.slice a n c)
    rw [os30] at this; exact this
  · exact (h.bel.trans (hc.below (fun k hk => by
      rcases Nat.lt_or_ge k b0 with h' | h'
      · exact absurd hk (hlow k (by omega))
      · exact h') (by have := h.size; omega))).setCell (by simp; omega) _
  · exact ((Chg.refl [b5] W').setCell (p := ⟨b5, 30, none⟩) (.inl (by simp)) (.slice a n c)).owns (hc.owns h.mat (two_apart h.links h.mat (by decide))) (fun k hk hm => h.matb (by rw [hk, List.mem_singleton.1 hm]))
  · exact ownsRow_setCell_below (hc.owns h.names (two_apart h.links h.names (by decide))) (by simp) _
  · exact ownsRow_setCell_below ho (by simp) _
  · exact ownsRow_setCell_below (hc.owns h.custom (two_apart h.links h.custom (by decide))) (by simp) _
theorem HObj.app_custom (h : HObj w W x b0 b5 O s) (y : ByteArray × ByteArray) (o : Obj) (a : Option Addr) (n c : Nat) (hg : (W.alloc o).grownBy W' s.custom.v.ownBlock)
    (ho : W'.ownsRow (b5 + 1) 58 2 (.slice a n c) n (custCells (O.custom ++ [y]))) : HObj w (W'.setCell ⟨b5, 31, none⟩ (.slice a n c)) x b0 b5 { O with custom := O.custom ++ [y] } { s with custom := ⟨a, n, c⟩ } := by
  have hc : Chg s.custom.v.ownBlock.toList W W' := ((Chg.refl _ W).alloc o).grown hg (fun k hk => .inl (by rw [hk]; simp))
  have hlow : ∀ k, k ≤ b5 → k ∉ s.custom.v.ownBlock.toList := fun k hk hm => by
    cases hv : s.custom.v.ownBlock with
    | none => rw [hv] at hm; cases hm
    | some z => rw [hv] at hm; simp at hm; have := (h.custom.lt z hv).1; omega
  have hlt := h.lt
  have h5 : W'.heap[b5]? = some (.cells (objCells O s) 35 (0, 0)) := (hc.block _ h.size (hlow b5 (Nat.le_refl _))).trans h.obj
  refine ⟨?_, ?_, ?_, ?_, h.lt, ?_, h.matb, ?_, ?_, ?_, h.dl, h.ml⟩
  · rw [block_setCell_other (by omega)]; exact (hc.block _ (block_lt h.raw) (hlow b0 (by omega))).trans h.raw
  · rw [block_setCell_other (by omega)]; exact (hc.block _ (block_lt h.res) (hlow (b0 + 1) (by omega))).trans h.res
  · have := block_setCell (j := 31) h5 (.slice a n c)
    rw [os31] at this; exact this
  · exact (h.bel.trans (hc.below (fun k hk => by
      rcases Nat.lt_or_ge k b0 with h' | h'
      · exact absurd hk (hlow k (by omega))
      · exact h') (by have := h.size; omega))).setCell (by simp; omega) _
  · exact ((Chg.refl [b5] W').setCell (p := ⟨b5, 31, none⟩) (.inl (by simp)) (.slice a n c)).owns (hc.owns h.mat (two_apart h.custom h.mat (by decide))) (fun k hk hm => h.matb (by rw [hk, List.mem_singleton.1 hm]))
  · exact ownsRow_setCell_below (hc.owns h.names (two_apart h.custom h.names (by decide))) (by simp) _
  · exact ownsRow_setCell_below (hc.owns h.links (two_apart h.custom h.links (by decide))) (by simp) _
  · exact ownsRow_setCell_below ho (by simp) _
end
end Go.Proofs.YtdlkobmlnpijgaaDoor
