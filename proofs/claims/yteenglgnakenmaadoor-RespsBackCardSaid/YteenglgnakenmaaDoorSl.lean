/- Slices as data; slices.Clone of bytes. -/
import Derived.Test.YteenglgnakenmaaDoorMem
import Derived.Test.YteenglgnakenmaaDoorRows
import Derived.WalkSpells
import Derived.Outline
namespace Go.Proofs.YteenglgnakenmaaDoor
open Go.RowKit
set_option linter.unusedVariables false
set_option linter.unusedSimpArgs false
set_option maxRecDepth 100000
set_option maxHeartbeats 1600000

/-- A slice. -/
structure Sl where
  a : Option Addr := none
  n : Nat := 0
  c : Nat := 0
abbrev Sl.v (s : Sl) : Value := .slice s.a s.n s.c
def Sl.blk (s : Sl) : List Nat := (s.a.map (·.block)).toList
/-- What a slice reads as; nil has no room. -/
structure SlR (w : World) (s : Sl) (size : Nat) (xs : List Value) : Prop where
  rd : RdC w s.a (s.n * size) xs
  no : s.a = none → s.c = 0
  sm : s.n ≤ 1099511627776
  lt : ∀ k ∈ s.blk, k < w.heap.size
  nc : s.n ≤ s.c
theorem blk_some {s : Sl} {b off : Nat} {sp} (h : s.a = some ⟨b, off, sp⟩) : b ∈ s.blk := by simp [Sl.blk, h]
theorem SlR.keep {w w' : World} {s : Sl} {size : Nat} {xs : List Value} {G : List Nat} (h : SlR w s size xs) (hc : Chg G w w') (hd : Disj s.blk G) : SlR w' s size xs :=
  ⟨hc.rdC h.rd (fun b off sp hb => hd b (blk_some hb)), h.no, h.sm, fun k hk => Nat.lt_of_lt_of_le (h.lt k hk) hc.size, h.nc⟩
theorem SlR.below {w w' : World} {s : Sl} {size : Nat} {xs : List Value} (h : SlR w s size xs) (hb : Below w.heap.size w w') : SlR w' s size xs :=
  h.keep (Chg.of_below hb []) (fun _ _ hm => by cases hm)
/-- A slice of bytes: as SlR, with room up to the reach. -/
structure SlC (w : World) (s : Sl) (xs : List Value) : Prop where
  rd : RdC w s.a s.n xs
  no : s.a = none → s.c = 0
  sm : s.n ≤ 140737488355328
  lt : ∀ k ∈ s.blk, k < w.heap.size
  nc : s.n ≤ s.c
theorem SlC.keep {w w' : World} {s : Sl} {xs : List Value} {G : List Nat} (h : SlC w s xs) (hc : Chg G w w') (hd : Disj s.blk G) : SlC w' s xs :=
  ⟨hc.rdC h.rd (fun b off sp hb => hd b (blk_some hb)), h.no, h.sm, fun k hk => Nat.lt_of_lt_of_le (h.lt k hk) hc.size, h.nc⟩
theorem SlC.below {w w' : World} {s : Sl} {xs : List Value} (h : SlC w s xs) (hb : Below w.heap.size w w') : SlC w' s xs :=
  h.keep (Chg.of_below hb []) (fun _ _ hm => by cases hm)
theorem SlC.nil (w : World) : SlC w {} [] := ⟨⟨by simp, fun j hj => by simp at hj⟩, fun _ => rfl, by simp, fun k hk => by simp [Sl.blk] at hk, Nat.le_refl _⟩
theorem typ_ne {w : World} {b b' : Nat} {T T' : TypeId} {size n n' : Nat} {v v' : Value} {xs xs' : List Value} {size' : Nat} {k : Nat}
    (h : w.ownsRow b T size v n xs) (h' : w.ownsRow b' T' size' v' n' xs') (hT : T ≠ T') (hk : v.ownBlock = some k) : v'.ownBlock ≠ some k := by
  intro hk'
  rcases h.2 with ⟨hv, _⟩ | ⟨g, cap, cur, hv, hg, hh, _⟩
  · rw [hv] at hk; cases hk
  · rcases h'.2 with ⟨hv', _⟩ | ⟨g', cap', cur', hv', hg', hh', _⟩
    · rw [hv'] at hk'; cases hk'
    · rw [hv] at hk; rw [hv'] at hk'
      simp only [Value.ownBlock, Option.some.injEq] at hk hk'
      subst hk; subst hk'
      rw [hh] at hh'
      simp only [Option.some.injEq, Obj.cells.injEq] at hh'
      exact hT hh'.2.1
theorem own_ne_block {w : World} {b : Nat} {T T' : TypeId} {size n : Nat} {v : Value} {xs : List Value} {p : Nat} {C : Array Value} (h : w.ownsRow b T size v n xs) (hp : w.heap[p]? = some (.cells C T' (0, 0))) (hT : T ≠ T') : v.ownBlock ≠ some p := by
  intro hk
  rcases h.2 with ⟨hv, _⟩ | ⟨g, cap, cur, hv, hg, hh, _⟩
  · rw [hv] at hk; cases hk
  · rw [hv] at hk
    simp only [Value.ownBlock, Option.some.injEq] at hk
    subst hk
    rw [hh] at hp
    simp only [Option.some.injEq, Obj.cells.injEq] at hp
    exact hT hp.2.1
theorem RdC.of_own {w : World} {base size n c : Nat} {e : TypeId} {a : Option Addr} {xs : List Value} (h : w.ownsRow base e size (.slice a n c) n xs) : RdC w a (n * size) xs := by
  refine ⟨h.1, fun j hj => ?_⟩
  rcases h.2 with ⟨hv, h0⟩ | ⟨g, cap, cur, hv, hr⟩
  · rw [h0] at hj; omega
  · simp only [Value.slice.injEq] at hv
    obtain ⟨rfl, _, rfl⟩ := hv
    refine ⟨g, 0, rfl, fun i u hu => ?_⟩
    have := h.cells (g := g) rfl i u hu
    rwa [addr_add] at this
theorem own_nc {w : World} {base size : Nat} {e : TypeId} {s : Sl} {xs : List Value} (h : w.ownsRow base e size s.v s.n xs) : s.n ≤ s.c := by
  rcases h.2 with ⟨hv, h0⟩ | ⟨g, cap, cur, hv, _, _, hnc, _⟩
  · omega
  · obtain ⟨a, n, c⟩ := s
    simp only [Value.slice.injEq] at hv
    obtain ⟨_, _, rfl⟩ := hv
    exact hnc
theorem SlR.of_own {w : World} {base size : Nat} {e : TypeId} {s : Sl} {xs : List Value} (h : w.ownsRow base e size s.v s.n xs) (hn : s.n ≤ 1099511627776) : SlR w s size xs := by
  refine ⟨RdC.of_own h, fun ha => ?_, hn, fun k hk => ?_, own_nc h⟩
  · rcases h.2 with ⟨hv, h0⟩ | ⟨g, cap, cur, hv, hr⟩
    · simp only [Value.slice.injEq] at hv; exact hv.2.2
    · simp only [Value.slice.injEq] at hv; rw [ha] at hv; cases hv.1
  · rcases h.2 with ⟨hv, h0⟩ | ⟨g, cap, cur, hv, hg, hh, _⟩
    · simp only [Value.slice.injEq] at hv; simp [Sl.blk, hv.1] at hk
    · simp only [Value.slice.injEq] at hv; simp [Sl.blk, hv.1] at hk; rw [hk]; exact block_lt hh
theorem SlC.of_own {w : World} {base : Nat} {e : TypeId} {s : Sl} {xs : List Value} (h : w.ownsRow base e 1 s.v s.n xs) (hn : s.n ≤ 140737488355328) : SlC w s xs := by
  refine ⟨by have := RdC.of_own h; rwa [Nat.mul_one] at this, fun ha => ?_, hn, fun k hk => ?_, own_nc h⟩
  · rcases h.2 with ⟨hv, h0⟩ | ⟨g, cap, cur, hv, hr⟩
    · simp only [Value.slice.injEq] at hv; exact hv.2.2
    · simp only [Value.slice.injEq] at hv; rw [ha] at hv; cases hv.1
  · rcases h.2 with ⟨hv, h0⟩ | ⟨g, cap, cur, hv, hg, hh, _⟩
    · simp only [Value.slice.injEq] at hv; simp [Sl.blk, hv.1] at hk
    · simp only [Value.slice.injEq] at hv; simp [Sl.blk, hv.1] at hk; rw [hk]; exact block_lt hh
theorem blk_own {w : World} {base size : Nat} {e : TypeId} {s : Sl} {xs : List Value} (h : w.ownsRow base e size s.v s.n xs) : ∀ k ∈ s.blk, base ≤ k := by
  intro k hk
  rcases h.2 with ⟨hv, h0⟩ | ⟨g, cap, cur, hv, hg, hh, _⟩
  · simp only [Value.slice.injEq] at hv; simp [Sl.blk, hv.1] at hk
  · simp only [Value.slice.injEq] at hv; simp [Sl.blk, hv.1] at hk; rw [hk]; exact hg
theorem own_take {w : World} {base size n c k : Nat} {e : TypeId} {a : Option Addr} {xs : List Value} (h : w.ownsRow base e size (.slice a n c) n xs) (hk : k ≤ n) : w.ownsRow base e size (.slice a k c) k (xs.take (k * size)) := by
  have hl : k * size ≤ n * size := Nat.mul_le_mul_right _ hk
  refine ⟨by rw [List.length_take, h.1]; omega, ?_⟩
  rcases h.2 with ⟨hv, h0⟩ | ⟨g, cap, cur, hv, hg, hh, hnc, hcm, hcs, ht⟩
  · simp only [Value.slice.injEq] at hv
    obtain ⟨rfl, rfl, rfl⟩ := hv
    obtain rfl : k = 0 := by omega
    exact .inl ⟨rfl, rfl⟩
  · simp only [Value.slice.injEq] at hv
    obtain ⟨rfl, _, rfl⟩ := hv
    refine .inr ⟨g, c, cur, rfl, hg, hh, by omega, hcm, hcs, ?_⟩
    rw [← ht, List.take_take, Nat.min_eq_left hl]
theorem oInfoB : (Tryd.prog.info? 5).map (fun i => (i.zero, i.size, i.bytes)) = some (some (.int .u8 0), 1, 1) := by kernel_rfl
theorem cloneB_any (s : Sl) (xs : List Value) (w : World) (h : SlR w s 1 xs) (h1 : ∀ u ∈ xs, u.oneCell' = true) :
    Calls Tryd.prog 68 #[.slice s.a s.n s.c] w fun e w' => ∃ s' : Sl, e = .returned (.slice s'.a s'.n s'.c) ∧ s'.n = s.n ∧ SlR w' s' 1 xs ∧ (∀ k ∈ s'.blk, w.heap.size ≤ k) ∧ Below w.heap.size w w' := by
  obtain ⟨i, hi, hz0, hz1, hz2⟩ := info_parts oInfoB
  obtain ⟨a, n, c⟩ := s
  have hr := h.rd; have hno := h.no; have hsm := h.sm
  simp only at hr hno hsm ⊢
  cases a with
  | none =>
    obtain rfl := hno rfl
    obtain rfl : n = 0 := by
      rcases Nat.eq_zero_or_pos n with h' | h'
      · exact h'
      · obtain ⟨b, off, hb, _⟩ := hr.cell 0 (by omega); cases hb
    clear hr hno hsm
    have he : ∀ w, (binOp .eql 27 (.slice none 0 0) (.slice none 0 0)).run Tryd.prog w = .ok (.bool true) w := fun w => Lib.run_eql_slice_nil (P := Tryd.prog) w 27 5 none 0 0 0 0 Tryd.underlying27
    go_enter Tryd.func68, Tryd.ntmps68
    go_wp2
    refine bodyPost_ret (v := .slice none 0 0) (by simp [results, go_sem]; try rfl) rfl ?_
    exact ⟨⟨none, 0, 0⟩, rfl, rfl, h, (fun k hk => by simp [Sl.blk] at hk), Below.refl _ _⟩
  | some x =>
    have HR := hid hr; clear hr
    have he : ∀ w, (binOp .eql 27 (.slice (some x) n c) (.slice none 0 0)).run Tryd.prog w = .ok (.bool false) w := fun w => Lib.run_eql_slice_nil (P := Tryd.prog) w 27 5 (some x) n c 0 0 Tryd.underlying27
    clear hno
    go_enter Tryd.func68, Tryd.ntmps68
    go_wp2_with (at_builtin; refine wpList_append_c rfl _ _ 27 rfl w.heap.size 5 i _ 1 1 Tryd.underlying27 hi hz0 hz1 hz2 rfl (by decide) _ 0 [] rfl (World.ownsRow_made w #[] 0 (Nat.le_refl _) (by unfold maxLen; omega) rfl) _ _ _ xs rfl (HR.out.below ((Below.refl _ _).alloc (Nat.le_refl _) _)) h1 (fun hx => by cases hx) (by unfold maxLen; omega) (by omega) (by simp) ?_; intro a' c' w1 hown hg hfr; have HO := hid hown; have HG := hid hg; have HF := hid hfr; clear hown hg hfr)
    go_ret
    have ho := HO.out
    have hg := HG.out
    rw [List.nil_append] at ho
    have hb : Below w.heap.size w w1 := ((Below.refl _ _).alloc (Nat.le_refl _) _).grown hg (by simp) (by intro q hq; cases hq; exact Nat.le_refl _)
    rw [Nat.zero_add] at ho
    refine ⟨⟨a', n, c'⟩, rfl, rfl, ⟨?_, (own_slice ho).2.1, hsm, ?_, own_nc (s := ⟨a', n, c'⟩) ho⟩, ?_, hb⟩
    · refine ⟨HR.out.len, fun j hj => ?_⟩
      simp only at hj
      rcases ho.2 with ⟨hv, h0⟩ | ⟨g, cap, cur, hv, hr'⟩
      · subst h0; omega
      · simp only [Value.slice.injEq] at hv
        obtain ⟨rfl, _, rfl⟩ := hv
        refine ⟨g, 0, rfl, fun k u hu => ?_⟩
        have hcell := ho.cells (g := g) rfl k u hu
        rwa [addr_add] at hcell
    · intro k hk
      rcases ho.2 with ⟨hv, h0⟩ | ⟨g, cap, cur, hv, hg', hh, _⟩
      · simp only [Value.slice.injEq] at hv; obtain ⟨rfl, _⟩ := hv; simp [Sl.blk] at hk
      · simp only [Value.slice.injEq] at hv
        obtain ⟨rfl, _, rfl⟩ := hv
        simp [Sl.blk] at hk; subst hk
        exact (Array.getElem?_eq_some_iff.1 hh).1
    · intro k hk
      rcases ho.2 with ⟨hv, h0⟩ | ⟨g, cap, cur, hv, hg', hh, _⟩
      · simp only [Value.slice.injEq] at hv; obtain ⟨rfl, _⟩ := hv; simp [Sl.blk] at hk
      · simp only [Value.slice.injEq] at hv
        obtain ⟨rfl, _, rfl⟩ := hv
        simp [Sl.blk] at hk; subst hk
        exact hg'
theorem cloneY_any (s : Sl) (xs : List Value) (w : World) (h : SlC w s xs) (h1 : ∀ u ∈ xs, u.oneCell' = true) :
    Calls Tryd.prog 68 #[.slice s.a s.n s.c] w fun e w' => ∃ s' : Sl, e = .returned (.slice s'.a s'.n s'.c) ∧ s'.n = s.n ∧ SlC w' s' xs ∧ (∀ k ∈ s'.blk, w.heap.size ≤ k) ∧ Below w.heap.size w w' := by
  obtain ⟨i, hi, hz0, hz1, hz2⟩ := info_parts oInfoB
  obtain ⟨a, n, c⟩ := s
  have hr : RdC w a (n * 1) xs := by have := h.rd; simp only at this; rwa [Nat.mul_one]
  have hno := h.no; have hsm := h.sm
  simp only at hno hsm ⊢
  cases a with
  | none =>
    obtain rfl := hno rfl
    obtain rfl : n = 0 := by
      rcases Nat.eq_zero_or_pos n with h' | h'
      · exact h'
      · obtain ⟨b, off, hb, _⟩ := hr.cell 0 (by omega); cases hb
    clear hr hno hsm
    have he : ∀ w, (binOp .eql 27 (.slice none 0 0) (.slice none 0 0)).run Tryd.prog w = .ok (.bool true) w := fun w => Lib.run_eql_slice_nil (P := Tryd.prog) w 27 5 none 0 0 0 0 Tryd.underlying27
    go_enter Tryd.func68, Tryd.ntmps68
    go_wp2
    refine bodyPost_ret (v := .slice none 0 0) (by simp [results, go_sem]; try rfl) rfl ?_
    exact ⟨⟨none, 0, 0⟩, rfl, rfl, h, (fun k hk => by simp [Sl.blk] at hk), Below.refl _ _⟩
  | some x =>
    have HR := hid hr; clear hr
    have he : ∀ w, (binOp .eql 27 (.slice (some x) n c) (.slice none 0 0)).run Tryd.prog w = .ok (.bool false) w := fun w => Lib.run_eql_slice_nil (P := Tryd.prog) w 27 5 (some x) n c 0 0 Tryd.underlying27
    clear hno
    go_enter Tryd.func68, Tryd.ntmps68
    go_wp2_with (at_builtin; refine wpList_append_c rfl _ _ 27 rfl w.heap.size 5 i _ 1 1 Tryd.underlying27 hi hz0 hz1 hz2 rfl (by decide) _ 0 [] rfl (World.ownsRow_made w #[] 0 (Nat.le_refl _) (by unfold maxLen; omega) rfl) _ _ _ xs rfl (HR.out.below ((Below.refl _ _).alloc (Nat.le_refl _) _)) h1 (fun hx => by cases hx) (by unfold maxLen; omega) (by omega) (by simp) ?_; intro a' c' w1 hown hg hfr; have HO := hid hown; have HG := hid hg; have HF := hid hfr; clear hown hg hfr)
    go_ret
    have ho := HO.out
    have hg := HG.out
    rw [List.nil_append] at ho
    have hb : Below w.heap.size w w1 := ((Below.refl _ _).alloc (Nat.le_refl _) _).grown hg (by simp) (by intro q hq; cases hq; exact Nat.le_refl _)
    rw [Nat.zero_add] at ho
    refine ⟨⟨a', n, c'⟩, rfl, rfl, ⟨?_, (own_slice ho).2.1, hsm, ?_, own_nc (s := ⟨a', n, c'⟩) ho⟩, ?_, hb⟩
    · refine ⟨by have := HR.out.len; simpa using this, fun j hj => ?_⟩
      simp only at hj
      rcases ho.2 with ⟨hv, h0⟩ | ⟨g, cap, cur, hv, hr'⟩
      · subst h0; omega
      · simp only [Value.slice.injEq] at hv
        obtain ⟨rfl, _, rfl⟩ := hv
        refine ⟨g, 0, rfl, fun k u hu => ?_⟩
        have hcell := ho.cells (g := g) rfl k u hu
        rwa [addr_add] at hcell
    · intro k hk
      rcases ho.2 with ⟨hv, h0⟩ | ⟨g, cap, cur, hv, hg', hh, _⟩
      · simp only [Value.slice.injEq] at hv; obtain ⟨rfl, _⟩ := hv; simp [Sl.blk] at hk
      · simp only [Value.slice.injEq] at hv
        obtain ⟨rfl, _, rfl⟩ := hv
        simp [Sl.blk] at hk; subst hk
        exact (Array.getElem?_eq_some_iff.1 hh).1
    · intro k hk
      rcases ho.2 with ⟨hv, h0⟩ | ⟨g, cap, cur, hv, hg', hh, _⟩
      · simp only [Value.slice.injEq] at hv; obtain ⟨rfl, _⟩ := hv; simp [Sl.blk] at hk
      · simp only [Value.slice.injEq] at hv
        obtain ⟨rfl, _, rfl⟩ := hv
        simp [Sl.blk] at hk; subst hk
        exact hg'

end Go.Proofs.YteenglgnakenmaaDoor
