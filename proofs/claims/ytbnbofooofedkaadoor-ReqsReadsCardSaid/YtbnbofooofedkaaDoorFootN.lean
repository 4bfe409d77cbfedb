/- Items: a new zero item is no block of a made one (by what stands in it). -/
import Derived.Test.YtbnbofooofedkaaDoorItem2
import Derived.Test.YtbnbofooofedkaaDoorRegion
namespace Go.Proofs.YtbnbofooofedkaaDoor
open Go.RowKit
set_option linter.unusedVariables false
set_option linter.unusedSimpArgs false
mutual
/-- The blocks that an item reaches by slices that are not empty. -/
def ItV.footN : ItV → List Nat
 | ⟨_, _, _, _, ds, ks, k⟩ => (if ds.n = 0 then [] else ds.blk) ++ ((if ks.n = 0 then [] else ks.blk) ++ footNAll k)
def footNAll : List ItV → List Nat
 | [] => []
 | v :: r => v.footN ++ footNAll r
end
theorem mem_footNAll {l : List ItV} {k : Nat} : k ∈ footNAll l ↔ ∃ v ∈ l, k ∈ v.footN := by
 induction l with
 | nil => simp [footNAll]
 | cons v r ih => rw [footNAll, List.mem_append, ih]; simp
theorem ItV.mem_footN {v : ItV} {k : Nat} : k ∈ v.footN ↔ (v.ds.n ≠ 0 ∧ k ∈ v.ds.blk) ∨ (v.ks.n ≠ 0 ∧ k ∈ v.ks.blk) ∨ ∃ x ∈ v.kids, k ∈ x.footN := by
 obtain ⟨t, y, i, d, ds, ks, l⟩ := v
 rw [ItV.footN, List.mem_append, List.mem_append, mem_footNAll]
 by_cases h1 : ds.n = 0 <;> by_cases h2 : ks.n = 0 <;> simp [h1, h2]
theorem RdC.none {w w' : World} {a : Option Addr} {xs : List Value} (h : RdC w a 0 xs) : RdC w' a 0 xs := ⟨h.len, fun j hj => by omega⟩
theorem SlC.keepN {w w' : World} {s : Sl} {xs : List Value} {G : List Nat} (h : SlC w s xs) (hc : Chg G w w') (hd : s.n ≠ 0 → Disj s.blk G) : SlC w' s xs := by
 by_cases hn : s.n = 0
 ·refine ⟨?_, h.no, h.sm, fun k hk => Nat.lt_of_lt_of_le (h.lt k hk) hc.size⟩
  have h1 := h.rd
  rw [hn] at h1 ⊢
  exact h1.none
 ·exact h.keep hc (hd hn)
theorem SlR.keepN {w w' : World} {s : Sl} {size : Nat} {xs : List Value} {G : List Nat} (h : SlR w s size xs) (hc : Chg G w w') (hd : s.n ≠ 0 → Disj s.blk G) : SlR w' s size xs := by
 by_cases hn : s.n = 0
 ·refine ⟨?_, h.no, h.sm, fun k hk => Nat.lt_of_lt_of_le (h.lt k hk) hc.size, h.nc⟩
  have h1 := h.rd
  rw [hn, Nat.zero_mul] at h1 ⊢
  exact h1.none
 ·exact h.keep hc (hd hn)
theorem ItV.ok.keepN {w w' : World} {G : List Nat} (hc : Chg G w w') {v : ItV} : v.ok w → Disj v.footN G → v.ok w' := by
 refine ItV.ind (C := fun v => v.ok w → Disj v.footN G → v.ok w') (fun v ih h hd => ?_) v
 obtain ⟨h1, h2, h3⟩ := ok_iff.1 h
 exact ok_iff.2 ⟨h1.keepN hc (fun hn k hk => hd k (mem_footN.2 (.inl ⟨hn, hk⟩))), h2.keepN hc (fun hn k hk => hd k (mem_footN.2 (.inr (.inl ⟨hn, hk⟩)))),
  fun x hx => ih x hx (h3 x hx) (fun k hk => hd k (mem_footN.2 (.inr (.inr ⟨x, hx, hk⟩))))⟩
mutual
/-- No kid, however deep, is a zero item. -/
def nz : Itm → Bool
 | ⟨_, _, _, _, k⟩ => nzAll k
def nzAll : List Itm → Bool
 | [] => true
 | x :: r => (x.tag != 0 || x.typ != 0) && nz x && nzAll r
end
theorem nzAll_mem {l : List Itm} : nzAll l = true ↔ ∀ x ∈ l, (x.tag ≠ 0 ∨ x.typ ≠ 0) ∧ nz x = true := by
 induction l with
 | nil => simp [nzAll]
 | cons x r ih => rw [nzAll, Bool.and_eq_true, Bool.and_eq_true, ih]; simp
theorem nz_kids {v : ItV} (h : nz v.it = true) : ∀ x ∈ v.kids, (x.tag ≠ 0 ∨ x.typ ≠ 0) ∧ nz x.it = true := by
 rw [ItV.it_eq, nz, nzAll_mem] at h
 intro x hx
 have := h x.it (List.mem_map.2 ⟨x, hx, rfl⟩)
 rwa [show x.it.tag = x.tag by rw [ItV.it_eq], show x.it.typ = x.typ by rw [ItV.it_eq]] at this
theorem itZ_at {j : Nat} {v : Value} (h : itZ.arr[j]? = some v) : (j < 3 ∧ v = .int .i64 0) ∨ ((j = 3 ∨ j = 4) ∧ v = .slice none 0 0) := by
 match j, h with
 | 0, h => exact .inl ⟨by omega, by simpa [itZ, ItV.arr] using h.symm⟩
 | 1, h => exact .inl ⟨by omega, by simpa [itZ, ItV.arr] using h.symm⟩
 | 2, h => exact .inl ⟨by omega, by simpa [itZ, ItV.arr] using h.symm⟩
 | 3, h => exact .inr ⟨by omega, by simpa [itZ, ItV.arr] using h.symm⟩
 | 4, h => exact .inr ⟨by omega, by simpa [itZ, ItV.arr] using h.symm⟩
 | j + 5, h => simp [itZ, ItV.arr] at h
theorem ItV.ok.notZero {w : World} {p : Nat} {T : TypeId} (hp : w.heap[p]? = some (.cells itZ.arr T (0, 0))) {v : ItV} : v.ok w → nz v.it = true → p ∉ v.footN := by
 refine ItV.ind (C := fun v => v.ok w → nz v.it = true → p ∉ v.footN) (fun v ih h hz hm => ?_) v
 obtain ⟨h1, h2, h3⟩ := ok_iff.1 h
 rcases mem_footN.1 hm with ⟨hn, hb⟩ | ⟨hn, hb⟩ | ⟨x, hx, hb⟩
 ·obtain ⟨b, off, ha, hc⟩ := h1.rd.cell 0 (by omega)
  have hbp : b = p := by simp [Sl.blk, ha] at hb; exact hb.symm
  subst hbp
  have hl := h1.lenB
  have hx0 : (v.data.map B8)[0]? = some (B8 (v.data[0]'(by omega))) := by rw [List.getElem?_map, List.getElem?_eq_getElem (by omega)]; rfl
  have hcc := hc 0 _ hx0
  rw [cell_of_row w b (off + 0) itZ.arr T (0, 0) hp] at hcc
  rcases itZ_at hcc with ⟨_, h'⟩ | ⟨_, h'⟩
  ·unfold B8 at h'; simp at h'
  ·unfold B8 at h'; simp at h'
 ·obtain ⟨b, off, x, ha, hx, c0, c1, c2, c3, c4⟩ := h2.kid (k := 0) (by omega)
  have hbp : b = p := by simp [Sl.blk, ha] at hb; exact hb.symm
  subst hbp
  rw [Nat.zero_mul, Nat.add_zero] at c0 c1 c3 c4
  rw [cell_of_row w b _ itZ.arr T (0, 0) hp] at c0 c1 c3 c4
  have hoff : off = 0 := by
   rcases itZ_at c4 with ⟨_, h'⟩ | ⟨h', _⟩
   ·simp at h'
   ·rcases itZ_at c3 with ⟨_, h'⟩ | ⟨h'', _⟩
    ·simp at h'
    ·omega
  subst hoff
  have h0 : x.tag = 0 := by
   rcases itZ_at c0 with ⟨_, h'⟩ | ⟨h', _⟩
   ·simpa using h'
   ·omega
  have h1' : x.typ = 0 := by
   rcases itZ_at c1 with ⟨_, h'⟩ | ⟨h', _⟩
   ·simpa using h'
   ·omega
  rcases (nz_kids hz x (List.mem_of_getElem? hx)).1 with h' | h'
  ·exact h' h0
  ·exact h' h1'
 ·exact ih x hx (h3 x hx) (nz_kids hz x hx).2 hb
end Go.Proofs.YtbnbofooofedkaaDoor
