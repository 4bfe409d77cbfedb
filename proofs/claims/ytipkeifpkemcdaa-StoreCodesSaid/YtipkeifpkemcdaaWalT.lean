/- law4.texts: units of raw sizes. -/
import Derived.Test.YtipkeifpkemcdaaWalJ
import Derived.Test.YtipkeifpkemcdaaInts
namespace Go.Proofs.Ytipkeifpkemcdaa
open Go.RowKit
set_option linter.unusedVariables false
set_option linter.unusedSimpArgs false
set_option maxRecDepth 100000
set_option maxHeartbeats 6400000
/-- A row of numbers that came in. -/
structure IntsA (w : World) (a : Option Addr) (n : Nat) (l : List Int) : Prop where
  len : l.length = n
  sm : n ≤ 140737488355328
  row : ∀ k, k < n → ∃ b off z, a = some ⟨b, off, none⟩ ∧ l[k]? = some z ∧ (-9223372036854775808 ≤ z ∧ z ≤ 9223372036854775807) ∧ w.cell? ⟨b, off + k, none⟩ = some (.int .i64 z)
theorem IntsA.below {w w' : World} {a : Option Addr} {n : Nat} {l : List Int} (h : IntsA w a n l) (hb : Below w.heap.size w w') : IntsA w' a n l :=
  ⟨h.len, h.sm, fun k hk => let ⟨b, off, z, h1, h2, h3, h4⟩ := h.row k hk; ⟨b, off, z, h1, h2, h3, (Chg.of_below hb []).cell h4 (by simp)⟩⟩
/-- A step. -/
structure StD where
  what : Int := 0
  n : Int := 0
  sa : Option Addr := none
  sn : Nat := 0
  sc : Nat := 0
  sl : List Int := []
  fa : Option Addr := none
  fn : Nat := 0
  fc : Nat := 0
  fl : List Int := []
  ba : Option Addr := none
  bn : Nat := 0
  bc : Nat := 0
  bl : List UInt8 := []
instance : Inhabited StD := ⟨{}⟩
def StD.cells (x : StD) : List Value := [.int .i64 x.what, .int .i64 x.n, .slice x.sa x.sn x.sc, .slice x.fa x.fn x.fc, .slice x.ba x.bn x.bc]
structure StD.ok (w : World) (x : StD) : Prop where
  n : -9223372036854775808 ≤ x.n ∧ x.n ≤ 9223372036854775807
  what : -9223372036854775808 ≤ x.what ∧ x.what ≤ 9223372036854775807
  sizes : IntsA w x.sa x.sn x.sl
  fates : IntsA w x.fa x.fn x.fl
theorem StD.ok.below {w w' : World} {x : StD} (h : x.ok w) (hb : Below w.heap.size w w') : x.ok w' := ⟨h.n, h.what, h.sizes.below hb, h.fates.below hb⟩
/-- Units in a row, wherever it stands; all of it in blocks of P. -/
structure UnQ (w : World) (P : Nat → Prop) (s : Sl) (sls : List Sl) (us : List (List UInt8)) : Prop where
  rc : RdC w s.a s.n (sls.map Sl.v)
  lu : us.length = s.n
  no : s.a = none → s.c = 0
  at_ : ∀ b off sp, s.a = some ⟨b, off, sp⟩ → P b
  rd : ∀ (k : Nat) (sl : Sl) (l : List UInt8), sls[k]? = some sl → us[k]? = some l → RdB w sl.a sl.n l ∧ (sl.a = none → sl.c = 0) ∧ sl.n ≤ 1099511627776 ∧ ∀ b off sp, sl.a = some ⟨b, off, sp⟩ → P b
section
variable {w w' : World} {P P' : Nat → Prop} {s : Sl} {sls : List Sl} {us : List (List UInt8)} {G : List Nat}
theorem UnQ.nil (w : World) (P : Nat → Prop) : UnQ w P {} [] [] := ⟨RdC.nil _ _, rfl, fun _ => rfl, (fun b off sp h => by cases h), fun k sl l h _ => by simp at h⟩
theorem UnQ.len (h : UnQ w P s sls us) : sls.length = s.n := by have := h.rc.len; simpa using this
theorem UnQ.keep (h : UnQ w P s sls us) (hc : Chg G w w') (hG : ∀ q ∈ G, ¬ P q) : UnQ w' P s sls us :=
  ⟨hc.rdC h.rc (fun b off sp hb hm => hG _ hm (h.at_ b off sp hb)), h.lu, h.no, h.at_, fun k sl l h1 h2 => let ⟨a, b, c, d⟩ := h.rd k sl l h1 h2; ⟨hc.rdB a (fun b off sp hb hm => hG _ hm (d b off sp hb)), b, c, d⟩⟩
theorem UnQ.below (h : UnQ w P s sls us) (hb : Below w.heap.size w w') : UnQ w' P s sls us := h.keep (Chg.of_below hb []) (fun q hm => by cases hm)
theorem UnQ.wide (h : UnQ w P s sls us) (hP : ∀ q, P q → P' q) : UnQ w P' s sls us :=
  ⟨h.rc, h.lu, h.no, fun b off sp e => hP _ (h.at_ b off sp e), fun k sl l h1 h2 => let ⟨a, b, c, d⟩ := h.rd k sl l h1 h2; ⟨a, b, c, fun b off sp e => hP _ (d b off sp e)⟩⟩
theorem UnQ.un (h : UnQ w P s sls us) : UnA w s.a s.n us := by
  refine ⟨h.lu, fun k hk => ?_⟩
  have h1 : sls[k]? = some (sls[k]'(by rw [h.len]; exact hk)) := List.getElem?_eq_getElem _
  have h2 : us[k]? = some (us[k]'(by rw [h.lu]; exact hk)) := List.getElem?_eq_getElem _
  obtain ⟨k1, k2, k3, k4⟩ := h.rd k _ _ h1 h2
  obtain ⟨b, off, ha, hc⟩ := h.rc.cell k hk
  exact ⟨b, off, _, _, _, _, ha, h2, hc k _ (by rw [List.getElem?_map, h1]; rfl), k1, k2, k3⟩
end
/-- A row of slices of bytes of the call's own. -/
structure OwnU (w : World) (base : Nat) (s : Sl) (sls : List Sl) (us : List (List UInt8)) : Prop where
  own : w.ownsRow base 24 1 (.slice s.a s.n s.c) s.n (sls.map Sl.v)
  lu : us.length = s.n
  rd : ∀ (k : Nat) (sl : Sl) (l : List UInt8), sls[k]? = some sl → us[k]? = some l → RdB w sl.a sl.n l ∧ (sl.a = none → sl.c = 0) ∧ sl.n < 150 ∧ ∀ b off sp, sl.a = some ⟨b, off, sp⟩ → base ≤ b ∧ b < w.heap.size ∧ s.v.ownBlock ≠ some b
section
variable {w w' W : World} {base : Nat} {s : Sl} {sls : List Sl} {us : List (List UInt8)}
theorem OwnU.nil (w : World) (base : Nat) : OwnU w base {} [] [] := ⟨World.ownsRow_nil w base 24 1, rfl, fun k sl l h _ => by simp at h⟩
theorem OwnU.len (h : OwnU w base s sls us) : sls.length = s.n := by have := h.own.1; simpa using this
theorem OwnU.below (h : OwnU w base s sls us) (hb : Below w.heap.size w w') : OwnU w' base s sls us :=
  ⟨(Chg.of_below hb []).owns h.own (fun _ _ hm => by cases hm), h.lu, fun k sl l h1 h2 => let ⟨a, b, c, d⟩ := h.rd k sl l h1 h2; ⟨a.below hb, b, c, fun q off sp e => ⟨(d q off sp e).1, Nat.lt_of_lt_of_le (d q off sp e).2.1 hb.size, (d q off sp e).2.2⟩⟩⟩
theorem OwnU.app (h : OwnU w base s sls us) (hW : Below w.heap.size w W) {t : Sl} {l : List UInt8} (hr : RdB w t.a t.n l) (hno : t.a = none → t.c = 0) (hn : t.n < 150) (hb : ∀ b off sp, t.a = some ⟨b, off, sp⟩ → base ≤ b ∧ b < w.heap.size ∧ s.v.ownBlock ≠ some b) {a : Option Addr} {c : Nat}
    (ho : w'.ownsRow base 24 1 (.slice a (s.n + 1) c) (s.n + 1) (sls.map Sl.v ++ [t.v])) (hg : W.grownBy w' s.v.ownBlock) (hf : (Value.slice a (s.n + 1) c).ownBlock = s.v.ownBlock ∨ ∀ k, (Value.slice a (s.n + 1) c).ownBlock = some k → W.heap.size ≤ k) : OwnU w' base ⟨a, s.n + 1, c⟩ (sls ++ [t]) (us ++ [l]) := by
  have hc : Chg s.v.ownBlock.toList w w' := (Chg.of_below hW _).grown hg (fun k hk => .inl (by rw [hk]; simp))
  have key : ∀ (k : Nat) (sl : Sl) (m : List UInt8), (sls ++ [t])[k]? = some sl → (us ++ [l])[k]? = some m → RdB w sl.a sl.n m ∧ (sl.a = none → sl.c = 0) ∧ sl.n < 150 ∧ ∀ b off sp, sl.a = some ⟨b, off, sp⟩ → base ≤ b ∧ b < w.heap.size ∧ s.v.ownBlock ≠ some b := fun k sl m h1 h2 => by
    have hlv := h.len; have hlx := h.lu
    rcases Nat.lt_or_ge k sls.length with hk | hk
    · rw [List.getElem?_append_left hk] at h1
      rw [List.getElem?_append_left (by omega)] at h2
      exact h.rd k sl m h1 h2
    · rw [List.getElem?_append_right hk] at h1
      rw [List.getElem?_append_right (by omega), show us.length = sls.length by omega] at h2
      cases hd : k - sls.length with
      | zero =>
        rw [hd] at h1 h2
        simp only [List.getElem?_cons_zero, Option.some.injEq] at h1 h2
        rw [← h1, ← h2]
        exact ⟨hr, hno, hn, hb⟩
      | succ j => rw [hd] at h1; simp at h1
  refine ⟨by rw [List.map_append, List.map_cons, List.map_nil]; exact ho, by rw [List.length_append, h.lu]; rfl, fun k sl m h1 h2 => ?_⟩
  obtain ⟨k1, k2, k3, k4⟩ := key k sl m h1 h2
  refine ⟨hc.rdB k1 (fun b off sp e hm => (k4 b off sp e).2.2 (mem_own'.1 hm)), k2, k3, fun b off sp e => ⟨(k4 b off sp e).1, Nat.lt_of_lt_of_le (k4 b off sp e).2.1 hc.size, fun he => ?_⟩⟩
  rcases hf with h' | h'
  · exact (k4 b off sp e).2.2 (by rw [← h']; exact he)
  · have h3 := h' b he
    have h4 := hW.size
    have h5 := (k4 b off sp e).2.1
    omega
theorem OwnU.un (h : OwnU w base s sls us) : UnA w s.a s.n us := by
  refine ⟨h.lu, fun k hk => ?_⟩
  have h1 : sls[k]? = some (sls[k]'(by rw [h.len]; exact hk)) := List.getElem?_eq_getElem _
  have h2 : us[k]? = some (us[k]'(by rw [h.lu]; exact hk)) := List.getElem?_eq_getElem _
  obtain ⟨k1, k2, k3, k4⟩ := h.rd k _ _ h1 h2
  have h3 := RdC.of_own h.own
  rw [Nat.mul_one] at h3
  obtain ⟨b, off, ha, hc⟩ := h3.cell k hk
  exact ⟨b, off, _, _, _, _, ha, h2, hc k _ (by rw [List.getElem?_map, h1]; rfl), k1, k2, by omega⟩
theorem OwnU.unq (h : OwnU w base s sls us) : UnQ w (fun q => base ≤ q ∧ q < w.heap.size) s sls us := by
  have h3 := RdC.of_own h.own
  rw [Nat.mul_one] at h3
  refine ⟨h3, h.lu, (own_slice h.own).2.1, own_at h.own, fun k sl l h1 h2 => ?_⟩
  obtain ⟨k1, k2, k3, k4⟩ := h.rd k sl l h1 h2
  exact ⟨k1, k2, by omega, fun b off sp e => ⟨(k4 b off sp e).1, (k4 b off sp e).2.1⟩⟩
theorem OwnU.small (h : OwnU w base s sls us) : ∀ l ∈ us, l.length < 150 := fun l hl => by
  obtain ⟨k, hk⟩ := List.getElem?_of_mem hl
  have hlt := (List.getElem?_eq_some_iff.1 hk).1
  have h1 : sls[k]? = some (sls[k]'(by rw [h.len, ← h.lu]; exact hlt)) := List.getElem?_eq_getElem _
  obtain ⟨k1, k2, k3, k4⟩ := h.rd k _ _ h1 hk
  rw [k1.len]; exact k3
end
def stSlB (lo : Nat) : St Grow := ⟨fun v w => ∃ (a : Option Addr) (n c : Nat) (l : List UInt8), v = .slice a n c ∧ RdB w a n l ∧ (a = none → c = 0) ∧ n < 150 ∧ ∀ b off sp, a = some ⟨b, off, sp⟩ → lo ≤ b ∧ b < w.heap.size, fun v w w' h hg => let ⟨a, n, c, l, e, h1, h2, h3, h4⟩ := h; ⟨a, n, c, l, e, h1.below hg, h2, h3, fun b off sp e => ⟨(h4 b off sp e).1, Nat.lt_of_lt_of_le (h4 b off sp e).2 hg.size⟩⟩⟩
def stSlB1 (lo : Nat) : St Grow := ⟨fun v w => ∃ (q : Nat) (a : Option Addr) (n c : Nat) (l : List UInt8), v = .slice (some ⟨q, 0, none⟩) 1 1 ∧ w.heap[q]? = some (.cells #[.slice a n c] 24 (0, 0)) ∧ RdB w a n l ∧ (a = none → c = 0) ∧ n < 150 ∧ ∀ b off sp, a = some ⟨b, off, sp⟩ → lo ≤ b ∧ b < w.heap.size, fun v w w' h hg => let ⟨q, a, n, c, l, e, h0, h1, h2, h3, h4⟩ := h; ⟨q, a, n, c, l, e, (hg.block _ (block_lt h0)).trans h0, h1.below hg, h2, h3, fun b off sp e => ⟨(h4 b off sp e).1, Nat.lt_of_lt_of_le (h4 b off sp e).2 hg.size⟩⟩⟩
end Go.Proofs.Ytipkeifpkemcdaa
