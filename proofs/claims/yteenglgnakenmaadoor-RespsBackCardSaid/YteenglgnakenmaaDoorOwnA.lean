/- Several texts in one. -/
import Derived.Test.YteenglgnakenmaaDoorItem2
import Derived.Test.YteenglgnakenmaaDoorRegion
import Derived.Test.YteenglgnakenmaaDoorPayA
namespace Go.Proofs.YteenglgnakenmaaDoor
open Go.RowKit
set_option linter.unusedVariables false
set_option linter.unusedSimpArgs false
mutual
/-- The blocks that an item reaches by slices that are not empty. -/
def ItV.footN : ItV → List Nat
  | ⟨_, _, _, _, ds, ks, k⟩ => (if ds.n = 0 then [] else ds.blk) ++ ((if ks.n = 0 then [] else ks.blk) ++ footNAll k)
def footNAll : List ItV → List Nat
  | [] => []
  | v :: r => v.footN ++ footNAll r
end
theorem mem_footNAll {l : List ItV} {k : Nat} : k ∈ footNAll l ↔ ∃ v ∈ l, k ∈ v.footN := by
  induction l with
  | nil => simp [footNAll]
  | cons v r ih => rw [footNAll, List.mem_append, ih]; simp
theorem ItV.mem_footN {v : ItV} {k : Nat} : k ∈ v.footN ↔ (v.ds.n ≠ 0 ∧ k ∈ v.ds.blk) ∨ (v.ks.n ≠ 0 ∧ k ∈ v.ks.blk) ∨ ∃ x ∈ v.kids, k ∈ x.footN := by
  obtain ⟨t, y, i, d, ds, ks, l⟩ := v
  rw [ItV.footN, List.mem_append, List.mem_append, mem_footNAll]
  by_cases h1 : ds.n = 0 <;> by_cases h2 : ks.n = 0 <;> simp [h1, h2]
theorem RdC.none {w w' : World} {a : Option Addr} {xs : List Value} (h : RdC w a 0 xs) : RdC w' a 0 xs := ⟨h.len, fun j hj => by omega⟩
theorem SlC.keepN {w w' : World} {s : Sl} {xs : List Value} {G : List Nat} (h : SlC w s xs) (hc : Chg G w w') (hd : s.n ≠ 0 → Disj s.blk G) : SlC w' s xs := by
  by_cases hn : s.n = 0
  · refine ⟨?_, h.no, h.sm, fun k hk => Nat.lt_of_lt_of_le (h.lt k hk) hc.size, h.nc⟩
    have h1 := h.rd
    rw [hn] at h1 ⊢
    exact h1.none
  · exact h.keep hc (hd hn)
theorem SlR.keepN {w w' : World} {s : Sl} {size : Nat} {xs : List Value} {G : List Nat} (h : SlR w s size xs) (hc : Chg G w w') (hd : s.n ≠ 0 → Disj s.blk G) : SlR w' s size xs := by
  by_cases hn : s.n = 0
  · refine ⟨?_, h.no, h.sm, fun k hk => Nat.lt_of_lt_of_le (h.lt k hk) hc.size, h.nc⟩
    have h1 := h.rd
    rw [hn, Nat.zero_mul] at h1 ⊢
    exact h1.none
  · exact h.keep hc (hd hn)
theorem ItV.ok.keepN {w w' : World} {G : List Nat} (hc : Chg G w w') {v : ItV} : v.ok w → Disj v.footN G → v.ok w' := by
  refine ItV.ind (C := fun v => v.ok w → Disj v.footN G → v.ok w') (fun v ih h hd => ?_) v
  obtain ⟨h1, h2, h3⟩ := ok_iff.1 h
  exact ok_iff.2 ⟨h1.keepN hc (fun hn k hk => hd k (mem_footN.2 (.inl ⟨hn, hk⟩))), h2.keepN hc (fun hn k hk => hd k (mem_footN.2 (.inr (.inl ⟨hn, hk⟩)))),
    fun x hx => ih x hx (h3 x hx) (fun k hk => hd k (mem_footN.2 (.inr (.inr ⟨x, hx, hk⟩))))⟩
mutual
/-- No kid, however deep, is a zero item. -/
def nz : Itm → Bool
  | ⟨_, _, _, _, k⟩ => nzAll k
def nzAll : List Itm → Bool
  | [] => true
  | x :: r => (x.tag != 0 || x.typ != 0) && nz x && nzAll r
end
theorem nzAll_mem {l : List Itm} : nzAll l = true ↔ ∀ x ∈ l, (x.tag ≠ 0 ∨ x.typ ≠ 0) ∧ nz x = true := by
  induction l with
  | nil => simp [nzAll]
  | cons x r ih => rw [nzAll, Bool.and_eq_true, Bool.and_eq_true, ih]; simp
theorem nz_kids {v : ItV} (h : nz v.it = true) : ∀ x ∈ v.kids, (x.tag ≠ 0 ∨ x.typ ≠ 0) ∧ nz x.it = true := by
  rw [ItV.it_eq, nz, nzAll_mem] at h
  intro x hx
  have := h x.it (List.mem_map.2 ⟨x, hx, rfl⟩)
  rwa [show x.it.tag = x.tag by rw [ItV.it_eq], show x.it.typ = x.typ by rw [ItV.it_eq]] at this
theorem itZ_at {j : Nat} {v : Value} (h : itZ.arr[j]? = some v) : (j < 3 ∧ v = .int .i64 0) ∨ ((j = 3 ∨ j = 4) ∧ v = .slice none 0 0) := by
  match j, h with
  | 0, h => exact .inl ⟨by omega, by simpa [itZ, ItV.arr] using h.symm⟩
  | 1, h => exact .inl ⟨by omega, by simpa [itZ, ItV.arr] using h.symm⟩
  | 2, h => exact .inl ⟨by omega, by simpa [itZ, ItV.arr] using h.symm⟩
  | 3, h => exact .inr ⟨by omega, by simpa [itZ, ItV.arr] using h.symm⟩
  | 4, h => exact .inr ⟨by omega, by simpa [itZ, ItV.arr] using h.symm⟩
  | j + 5, h => simp [itZ, ItV.arr] at h
theorem ItV.ok.notZero {w : World} {p : Nat} {T : TypeId} (hp : w.heap[p]? = some (.cells itZ.arr T (0, 0))) {v : ItV} : v.ok w → nz v.it = true → p ∉ v.footN := by
  refine ItV.ind (C := fun v => v.ok w → nz v.it = true → p ∉ v.footN) (fun v ih h hz hm => ?_) v
  obtain ⟨h1, h2, h3⟩ := ok_iff.1 h
  rcases mem_footN.1 hm with ⟨hn, hb⟩ | ⟨hn, hb⟩ | ⟨x, hx, hb⟩
  · obtain ⟨b, off, ha, hc⟩ := h1.rd.cell 0 (by omega)
    have hbp : b = p := by simp [Sl.blk, ha] at hb; exact hb.symm
    subst hbp
    have hl := h1.lenB
    have hx0 : (v.data.map B8)[0]? = some (B8 (v.data[0]'(by omega))) := by rw [List.getElem?_map, List.getElem?_eq_getElem (by omega)]; rfl
    have hcc := hc 0 _ hx0
    rw [cell_of_row w b (off + 0) itZ.arr T (0, 0) hp] at hcc
    rcases itZ_at hcc with ⟨_, h'⟩ | ⟨_, h'⟩
    · unfold B8 at h'; simp at h'
    · unfold B8 at h'; simp at h'
  · obtain ⟨b, off, x, ha, hx, c0, c1, c2, c3, c4⟩ := h2.kid (k := 0) (by omega)
    have hbp : b = p := by simp [Sl.blk, ha] at hb; exact hb.symm
    subst hbp
    rw [Nat.zero_mul, Nat.add_zero] at c0 c1 c3 c4
    rw [cell_of_row w b _ itZ.arr T (0, 0) hp] at c0 c1 c3 c4
    have hoff : off = 0 := by
      rcases itZ_at c4 with ⟨_, h'⟩ | ⟨h', _⟩
      · simp at h'
      · rcases itZ_at c3 with ⟨_, h'⟩ | ⟨h'', _⟩
        · simp at h'
        · omega
    subst hoff
    have h0 : x.tag = 0 := by
      rcases itZ_at c0 with ⟨_, h'⟩ | ⟨h', _⟩
      · simpa using h'
      · omega
    have h1' : x.typ = 0 := by
      rcases itZ_at c1 with ⟨_, h'⟩ | ⟨h', _⟩
      · simpa using h'
      · omega
    rcases (nz_kids hz x (List.mem_of_getElem? hx)).1 with h' | h'
    · exact h' h0
    · exact h' h1'
  · exact ih x hx (h3 x hx) (nz_kids hz x hx).2 hb
end Go.Proofs.YteenglgnakenmaaDoor
namespace Go.Proofs.YteenglgnakenmaaDoor
open Go.RowKit
set_option linter.unusedVariables false
set_option linter.unusedSimpArgs false
set_option maxRecDepth 100000
theorem OwnIt.chgN {T : TypeId} {w w' : World} {base low : Nat} {s : Sl} {l : List ItV} (h : OwnIt T w base low s l) {G : List Nat} (hc : Chg G w w') (hb : ∀ k, s.v.ownBlock = some k → k ∉ G) (hd : ∀ x ∈ l, Disj x.footN G) : OwnIt T w' base low s l :=
  ⟨hc.owns h.own hb, fun x hx => ItV.ok.keepN hc (h.ok x hx) (hd x hx), h.apart, h.low⟩
theorem OwnIt.apps {T : TypeId} {w w' W : World} {base low : Nat} {s : Sl} {l ys : List ItV} (h : OwnIt T w base low s l) (hW : Below w.heap.size w W) (hy : ∀ y ∈ ys, y.ok w) (hap : ∀ y ∈ ys, ∀ k ∈ y.foot, s.v.ownBlock ≠ some k) (hlow : ∀ y ∈ ys, ∀ k ∈ y.foot, low ≤ k) {a : Option Addr} {n c : Nat}
    (ho : w'.ownsRow base T 5 (.slice a n c) n (itmCells (l ++ ys))) (hg : W.grownBy w' s.v.ownBlock) (hf : (Value.slice a n c).ownBlock = s.v.ownBlock ∨ ∀ k, (Value.slice a n c).ownBlock = some k → W.heap.size ≤ k) : OwnIt T w' base low ⟨a, n, c⟩ (l ++ ys) := by
  have hc : Chg s.v.ownBlock.toList w w' := (Chg.of_below hW _).grown hg (fun k hk => .inl (by rw [hk]; simp))
  have hdis : ∀ x : ItV, (∀ k ∈ x.foot, s.v.ownBlock ≠ some k) → Disj x.foot s.v.ownBlock.toList := fun x hx k hk hm => by
    cases hv : s.v.ownBlock with
    | none => rw [hv] at hm; cases hm
    | some z => rw [hv] at hm; simp at hm; subst hm; exact hx k hk hv
  have key : ∀ x ∈ l ++ ys, x.ok w ∧ (∀ k ∈ x.foot, s.v.ownBlock ≠ some k) ∧ ∀ k ∈ x.foot, low ≤ k := by
    intro x hx
    rcases List.mem_append.1 hx with h' | h'
    · exact ⟨h.ok x h', h.apart x h', h.low x h'⟩
    · exact ⟨hy x h', hap x h', hlow x h'⟩
  refine ⟨ho, fun x hx => ItV.ok.keep hc (key x hx).1 (hdis x (key x hx).2.1), fun x hx k hk => ?_, fun x hx => (key x hx).2.2⟩
  rcases hf with h' | h'
  · rw [show Sl.v ⟨a, n, c⟩ = Value.slice a n c from rfl, h']; exact (key x hx).2.1 k hk
  · intro he
    have h1 := h' k he
    have h2 := (key x hx).1.lt k hk
    have h3 := hW.size
    omega
/-- The item in its block. -/
structure OwnObj (T : TypeId) (w : World) (base p : Nat) (tag : Int) (s : Sl) (l : List ItV) : Prop where
  blk : w.heap[p]? = some (.cells (ItV.arr { tag := tag, typ := 1, ks := s, kids := l }) T (0, 0))
  own : OwnIt T w base 0 s l
  out : ∀ k, s.v.ownBlock = some k → k ≠ p
  feet : ∀ x ∈ l, p ∉ x.footN
section
variable {T : TypeId} {w w' W : World} {base p : Nat} {tag : Int} {s : Sl} {l ys : List ItV}
theorem OwnObj.below (h : OwnObj T w base p tag s l) (hb : Below w.heap.size w w') : OwnObj T w' base p tag s l :=
  ⟨(hb.block _ (block_lt h.blk)).trans h.blk, h.own.below hb, h.out, h.feet⟩
theorem OwnObj.item (h : OwnObj T w base p tag s l) (hn : s.n ≤ 1099511627776) : ItV.ok w { tag := tag, typ := 1, ks := s, kids := l } :=
  ItV.ok_iff.2 ⟨SlC.nil _, h.own.sl hn, h.own.ok⟩
theorem footN_sub : ∀ (x : ItV), ∀ k ∈ x.footN, k ∈ x.foot := by
  refine ItV.ind (C := fun x => ∀ k ∈ x.footN, k ∈ x.foot) fun v ih k hk => ?_
  rcases ItV.mem_footN.1 hk with ⟨_, h⟩ | ⟨_, h⟩ | ⟨x, hx, h⟩
  · exact ItV.mem_foot.2 (.inl h)
  · exact ItV.mem_foot.2 (.inr (.inl h))
  · exact ItV.mem_foot.2 (.inr (.inr ⟨x, hx, ih x hx k h⟩))
/-- Kids more: the row has grown, the slice is laid back. -/
theorem OwnObj.push (h : OwnObj T w base p tag s l) (hW : Below w.heap.size w W) (hy : ∀ y ∈ ys, y.ok w) (hap : ∀ y ∈ ys, ∀ k ∈ y.foot, s.v.ownBlock ≠ some k ∧ k ≠ p) {a : Option Addr} {n c : Nat}
    (ho : w'.ownsRow base T 5 (.slice a n c) n (itmCells (l ++ ys))) (hg : W.grownBy w' s.v.ownBlock) (hf : (Value.slice a n c).ownBlock = s.v.ownBlock ∨ ∀ k, (Value.slice a n c).ownBlock = some k → W.heap.size ≤ k) :
    w'.heap[p]? = some (.cells (ItV.arr { tag := tag, typ := 1, ks := s, kids := l }) T (0, 0)) ∧ OwnObj T (w'.setCell ⟨p, 4, none⟩ (.slice a n c)) base p tag ⟨a, n, c⟩ (l ++ ys) := by
  have hpl := block_lt h.blk
  have hc : Chg s.v.ownBlock.toList w w' := (Chg.of_below hW _).grown hg (fun k hk => .inl (by rw [hk]; simp))
  have hp : w'.heap[p]? = some (.cells (ItV.arr { tag := tag, typ := 1, ks := s, kids := l }) T (0, 0)) := (hc.block p hpl (fun hm => by
    cases hv : s.v.ownBlock with
    | none => rw [hv] at hm; cases hm
    | some z => rw [hv] at hm; simp at hm; exact h.out z hv hm.symm)).trans h.blk
  have h8 := h.own.apps hW hy (fun y hy' k hk => (hap y hy' k hk).1) (fun _ _ _ _ => Nat.zero_le _) ho hg hf
  have hcb : Chg [p] w' (w'.setCell ⟨p, 4, none⟩ (.slice a n c)) := (Chg.refl [p] w').setCell (.inl (by simp)) _
  have hout : ∀ k, (Value.slice a n c).ownBlock = some k → k ≠ p := fun k hk => by
    rcases hf with h' | h'
    · rw [h'] at hk; exact h.out k hk
    · have := h' k hk; have := hW.size; omega
  have hft : ∀ x ∈ l ++ ys, p ∉ x.footN := fun x hx hm => by
    rcases List.mem_append.1 hx with h' | h'
    · exact h.feet x h' hm
    · exact (hap x h' p (footN_sub x p hm)).2 rfl
  exact ⟨hp, block_setCell hp _, h8.chgN hcb (fun k hk hm => hout k hk (List.mem_singleton.1 hm)) (fun x hx k hk hm => hft x hx (by rw [← List.mem_singleton.1 hm]; exact hk)), hout, hft⟩
/-- From a new item that is stored in its block. -/
theorem OwnObj.start {x : ItV} (hx : x = { tag := tag, typ := 1, ks := s, kids := l }) (ho : OwnIt T w base 0 s l) (hz : nz x.it = true) {T' : TypeId} (hp0 : w.heap[p]? = some (.cells itZ.arr T' (0, 0))) (hn : s.n ≠ 0) (hn2 : s.n ≤ 1099511627776) (hp : w'.heap[p]? = some (.cells x.arr T (0, 0))) (hc : Chg [p] w w') : OwnObj T w' base p tag s l := by
  subst hx
  have hok : ItV.ok w { tag := tag, typ := 1, ks := s, kids := l } := ItV.ok_iff.2 ⟨SlC.nil _, ho.sl hn2, ho.ok⟩
  have hnm := hok.notZero hp0 hz
  have hout : ∀ k, s.v.ownBlock = some k → k ≠ p := fun k hk he => hnm (ItV.mem_footN.2 (.inr (.inl ⟨hn, by
    subst he
    rcases ho.own.2 with ⟨hv, h0⟩ | ⟨g, cap, cur, hv, _⟩
    · exact absurd h0 hn
    · rw [show s.v = Value.slice s.a s.n s.c from rfl, hv] at hk
      simp only [Value.ownBlock, Option.some.injEq] at hk
      obtain ⟨a, n, c⟩ := s
      simp only [Value.slice.injEq] at hv
      simp [Sl.blk, hv.1, hk]⟩)))
  have hft : ∀ x ∈ l, p ∉ x.footN := fun x hx hm => hnm (ItV.mem_footN.2 (.inr (.inr ⟨x, hx, hm⟩)))
  exact ⟨hp, ho.chgN hc (fun k hk hm => hout k hk (List.mem_singleton.1 hm)) (fun x hx k hk hm => hft x hx (by rw [← List.mem_singleton.1 hm]; exact hk)), hout, hft⟩
end
end Go.Proofs.YteenglgnakenmaaDoor
