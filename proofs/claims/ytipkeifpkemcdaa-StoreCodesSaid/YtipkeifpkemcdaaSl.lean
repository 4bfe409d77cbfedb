/- Slices as data; slices.Clone of bytes. -/
import Derived.Test.YtipkeifpkemcdaaMem
import Derived.Test.YtipkeifpkemcdaaRows
import Derived.WalkSpells
import Derived.Outline
namespace Go.Proofs.Ytipkeifpkemcdaa
open Go.RowKit
set_option linter.unusedVariables false
set_option linter.unusedSimpArgs false
set_option maxRecDepth 100000
set_option maxHeartbeats 1600000

/-- A slice. -/
structure Sl where
  a : Option Addr := none
  n : Nat := 0
  c : Nat := 0
abbrev Sl.v (s : Sl) : Value := .slice s.a s.n s.c
def Sl.blk (s : Sl) : List Nat := (s.a.map (·.block)).toList
/-- What a slice reads as; nil has no room. -/
structure SlR (w : World) (s : Sl) (size : Nat) (xs : List Value) : Prop where
  rd : RdC w s.a (s.n * size) xs
  no : s.a = none → s.c = 0
  sm : s.n ≤ 1099511627776
  lt : ∀ k ∈ s.blk, k < w.heap.size
  nc : s.n ≤ s.c
theorem blk_some {s : Sl} {b off : Nat} {sp} (h : s.a = some ⟨b, off, sp⟩) : b ∈ s.blk := by simp [Sl.blk, h]
theorem SlR.keep {w w' : World} {s : Sl} {size : Nat} {xs : List Value} {G : List Nat} (h : SlR w s size xs) (hc : Chg G w w') (hd : Disj s.blk G) : SlR w' s size xs :=
  ⟨hc.rdC h.rd (fun b off sp hb => hd b (blk_some hb)), h.no, h.sm, fun k hk => Nat.lt_of_lt_of_le (h.lt k hk) hc.size, h.nc⟩
theorem SlR.below {w w' : World} {s : Sl} {size : Nat} {xs : List Value} (h : SlR w s size xs) (hb : Below w.heap.size w w') : SlR w' s size xs :=
  h.keep (Chg.of_below hb []) (fun _ _ hm => by cases hm)
/-- A slice of bytes: as SlR, with room up to the reach. -/
structure SlC (w : World) (s : Sl) (xs : List Value) : Prop where
  rd : RdC w s.a s.n xs
  no : s.a = none → s.c = 0
  sm : s.n ≤ 140737488355328
  lt : ∀ k ∈ s.blk, k < w.heap.size
theorem SlC.keep {w w' : World} {s : Sl} {xs : List Value} {G : List Nat} (h : SlC w s xs) (hc : Chg G w w') (hd : Disj s.blk G) : SlC w' s xs :=
  ⟨hc.rdC h.rd (fun b off sp hb => hd b (blk_some hb)), h.no, h.sm, fun k hk => Nat.lt_of_lt_of_le (h.lt k hk) hc.size⟩
theorem SlC.below {w w' : World} {s : Sl} {xs : List Value} (h : SlC w s xs) (hb : Below w.heap.size w w') : SlC w' s xs :=
  h.keep (Chg.of_below hb []) (fun _ _ hm => by cases hm)
theorem SlC.nil (w : World) : SlC w {} [] := ⟨⟨by simp, fun j hj => by simp at hj⟩, fun _ => rfl, by simp, fun k hk => by simp [Sl.blk] at hk⟩
theorem typ_ne {w : World} {b b' : Nat} {T T' : TypeId} {size n n' : Nat} {v v' : Value} {xs xs' : List Value} {size' : Nat} {k : Nat}
    (h : w.ownsRow b T size v n xs) (h' : w.ownsRow b' T' size' v' n' xs') (hT : T ≠ T') (hk : v.ownBlock = some k) : v'.ownBlock ≠ some k := by
  intro hk'
  rcases h.2 with ⟨hv, _⟩ | ⟨g, cap, cur, hv, hg, hh, _⟩
  · rw [hv] at hk; cases hk
  · rcases h'.2 with ⟨hv', _⟩ | ⟨g', cap', cur', hv', hg', hh', _⟩
    · rw [hv'] at hk'; cases hk'
    · rw [hv] at hk; rw [hv'] at hk'
      simp only [Value.ownBlock, Option.some.injEq] at hk hk'
      subst hk; subst hk'
      rw [hh] at hh'
      simp only [Option.some.injEq, Obj.cells.injEq] at hh'
      exact hT hh'.2.1
theorem own_ne_block {w : World} {b : Nat} {T T' : TypeId} {size n : Nat} {v : Value} {xs : List Value} {p : Nat} {C : Array Value} (h : w.ownsRow b T size v n xs) (hp : w.heap[p]? = some (.cells C T' (0, 0))) (hT : T ≠ T') : v.ownBlock ≠ some p := by
  intro hk
  rcases h.2 with ⟨hv, _⟩ | ⟨g, cap, cur, hv, hg, hh, _⟩
  · rw [hv] at hk; cases hk
  · rw [hv] at hk
    simp only [Value.ownBlock, Option.some.injEq] at hk
    subst hk
    rw [hh] at hp
    simp only [Option.some.injEq, Obj.cells.injEq] at hp
    exact hT hp.2.1
theorem RdC.of_own {w : World} {base size n c : Nat} {e : TypeId} {a : Option Addr} {xs : List Value} (h : w.ownsRow base e size (.slice a n c) n xs) : RdC w a (n * size) xs := by
  refine ⟨h.1, fun j hj => ?_⟩
  rcases h.2 with ⟨hv, h0⟩ | ⟨g, cap, cur, hv, hr⟩
  · rw [h0] at hj; omega
  · simp only [Value.slice.injEq] at hv
    obtain ⟨rfl, _, rfl⟩ := hv
    refine ⟨g, 0, rfl, fun i u hu => ?_⟩
    have := h.cells (g := g) rfl i u hu
    rwa [addr_add] at this
theorem own_nc {w : World} {base size : Nat} {e : TypeId} {s : Sl} {xs : List Value} (h : w.ownsRow base e size s.v s.n xs) : s.n ≤ s.c := by
  rcases h.2 with ⟨hv, h0⟩ | ⟨g, cap, cur, hv, _, _, hnc, _⟩
  · omega
  · obtain ⟨a, n, c⟩ := s
    simp only [Value.slice.injEq] at hv
    obtain ⟨_, _, rfl⟩ := hv
    exact hnc
theorem SlR.of_own {w : World} {base size : Nat} {e : TypeId} {s : Sl} {xs : List Value} (h : w.ownsRow base e size s.v s.n xs) (hn : s.n ≤ 1099511627776) : SlR w s size xs := by
  refine ⟨RdC.of_own h, fun ha => ?_, hn, fun k hk => ?_, own_nc h⟩
  · rcases h.2 with ⟨hv, h0⟩ | ⟨g, cap, cur, hv, hr⟩
    · simp only [Value.slice.injEq] at hv; exact hv.2.2
    · simp only [Value.slice.injEq] at hv; rw [ha] at hv; cases hv.1
  · rcases h.2 with ⟨hv, h0⟩ | ⟨g, cap, cur, hv, hg, hh, _⟩
    · simp only [Value.slice.injEq] at hv; simp [Sl.blk, hv.1] at hk
    · simp only [Value.slice.injEq] at hv; simp [Sl.blk, hv.1] at hk; rw [hk]; exact block_lt hh
theorem SlC.of_own {w : World} {base : Nat} {e : TypeId} {s : Sl} {xs : List Value} (h : w.ownsRow base e 1 s.v s.n xs) (hn : s.n ≤ 140737488355328) : SlC w s xs := by
  refine ⟨by have := RdC.of_own h; rwa [Nat.mul_one] at this, fun ha => ?_, hn, fun k hk => ?_⟩
  · rcases h.2 with ⟨hv, h0⟩ | ⟨g, cap, cur, hv, hr⟩
    · simp only [Value.slice.injEq] at hv; exact hv.2.2
    · simp only [Value.slice.injEq] at hv; rw [ha] at hv; cases hv.1
  · rcases h.2 with ⟨hv, h0⟩ | ⟨g, cap, cur, hv, hg, hh, _⟩
    · simp only [Value.slice.injEq] at hv; simp [Sl.blk, hv.1] at hk
    · simp only [Value.slice.injEq] at hv; simp [Sl.blk, hv.1] at hk; rw [hk]; exact block_lt hh
theorem blk_own {w : World} {base size : Nat} {e : TypeId} {s : Sl} {xs : List Value} (h : w.ownsRow base e size s.v s.n xs) : ∀ k ∈ s.blk, base ≤ k := by
  intro k hk
  rcases h.2 with ⟨hv, h0⟩ | ⟨g, cap, cur, hv, hg, hh, _⟩
  · simp only [Value.slice.injEq] at hv; simp [Sl.blk, hv.1] at hk
  · simp only [Value.slice.injEq] at hv; simp [Sl.blk, hv.1] at hk; rw [hk]; exact hg
theorem own_take {w : World} {base size n c k : Nat} {e : TypeId} {a : Option Addr} {xs : List Value} (h : w.ownsRow base e size (.slice a n c) n xs) (hk : k ≤ n) : w.ownsRow base e size (.slice a k c) k (xs.take (k * size)) := by
  have hl : k * size ≤ n * size := Nat.mul_le_mul_right _ hk
  refine ⟨by rw [List.length_take, h.1]; omega, ?_⟩
  rcases h.2 with ⟨hv, h0⟩ | ⟨g, cap, cur, hv, hg, hh, hnc, hcm, hcs, ht⟩
  · simp only [Value.slice.injEq] at hv
    obtain ⟨rfl, rfl, rfl⟩ := hv
    obtain rfl : k = 0 := by omega
    exact .inl ⟨rfl, rfl⟩
  · simp only [Value.slice.injEq] at hv
    obtain ⟨rfl, _, rfl⟩ := hv
    refine .inr ⟨g, c, cur, rfl, hg, hh, by omega, hcm, hcs, ?_⟩
    rw [← ht, List.take_take, Nat.min_eq_left hl]

end Go.Proofs.Ytipkeifpkemcdaa
