/- DiskFlushed. -/
import Derived.Test.YthcjiiknhldgoaaLaw3
import Derived.Test.YthcjiiknhldgoaaLaw3Open
import Derived.Test.YthcjiiknhldgoaaRegion
import Derived.Deep.DeepCutAuto
import Derived.Deep.CutBlock
namespace Go.Proofs.Ythcjiiknhldgoaa
open Go.RowKit
set_option linter.unusedVariables false
set_option linter.unusedSimpArgs false
set_option maxRecDepth 100000
set_option maxHeartbeats 8000000

theorem snoc_ind {α : Type} {P : List α → Prop} (h0 : P []) (h1 : ∀ l x, P l → P (l ++ [x])) : ∀ l, P l := by
  have h : ∀ l : List α, P l.reverse := by
    intro l
    induction l with
    | nil => exact h0
    | cons x l ih => rw [List.reverse_cons]; exact h1 _ _ ih
  intro l
  have := h l.reverse
  rwa [List.reverse_reverse] at this
/-- What a sector has behind the writes. -/
theorem done_at (sec : List (List UInt8 × Bool)) (z : Nat) (hz : z < sec.length) : ∀ (l : List (Nat × List UInt8)), (done sec l)[z]? = (match lastOf l z with | some d => some (d, false) | none => sec[z]?) ∧ (done sec l).length = sec.length := by
  refine snoc_ind ⟨rfl, rfl⟩ fun l x ih => ?_
  rw [done_snoc, lastOf_snoc]
  refine ⟨?_, by rw [List.length_set]; exact ih.2⟩
  by_cases h : x.1 = z
  · rw [if_pos h, h, List.getElem?_set_self (by rw [ih.2]; exact hz)]
  · rw [if_neg h, List.getElem?_set_ne h]
    exact ih.1
theorem crashedF_other (fates : List Int) (j : Nat) : ∀ (l : List (Nat × List UInt8)) (sec : List (List UInt8 × Bool)) (i : Nat), (∀ x ∈ l, x.1 ≠ j) → (crashed fates sec i l)[j]? = sec[j]?
  | [], sec, i, _ => rfl
  | y :: l, sec, i, h => by
    simp only [crashed]
    rw [crashedF_other fates j l _ _ (fun x hx => h x (List.mem_cons_of_mem _ hx))]
    have hy := h y (List.mem_cons_self ..)
    split
    · rw [List.getElem?_set_ne hy]
    · split
      · rw [List.getElem?_set_ne hy]
      · rfl
theorem crashedF_len (fates : List Int) : ∀ (l : List (Nat × List UInt8)) (sec : List (List UInt8 × Bool)) (i : Nat), (crashed fates sec i l).length = sec.length
  | [], sec, i => rfl
  | y :: l, sec, i => by
    simp only [crashed]
    rw [crashedF_len fates l]
    split
    · simp
    · split <;> simp

/-- A disk made behind w0, and other blocks whole beside it. -/
def DkG (w0 w : World) (p : Nat) (s : DSt) (G : List (Nat × Obj)) : Prop := ∃ F, Dk w p s F ∧ (∀ q ∈ F, w0.heap.size ≤ q) ∧ Below w0.heap.size w0 w ∧ ∀ x ∈ G, w.heap[x.1]? = some x.2 ∧ x.1 ∉ F ∧ w0.heap.size ≤ x.1
section
variable {w0 w w1 : World} {p : Nat} {s s' : DSt} {G : List (Nat × Obj)} {F F' : List Nat}
theorem DkG.below (h : DkG w0 w p s G) : Below w0.heap.size w0 w := let ⟨_, _, _, h, _⟩ := h; h
theorem DkG.blk (h : DkG w0 w p s G) {x : Nat × Obj} (hx : x ∈ G) : w.heap[x.1]? = some x.2 := let ⟨_, _, _, _, h⟩ := h; (h x hx).1
theorem DkG.of (h : DkS w0 w p s []) : DkG w0 w p s [] := let ⟨F, h1, h2, h3, _⟩ := h; ⟨F, h1, h2, h3, fun x hx => by cases hx⟩
theorem DkG.later (h : DkG w0 w p s G) (hb : Below w.heap.size w w1) : DkG w0 w1 p s G := by
  obtain ⟨F, h1, h2, h3, h4⟩ := h
  exact ⟨F, h1.keep (Chg.of_below hb []) (fun _ _ hm => by cases hm), h2, h3.trans (hb.mono h3.size), fun x hx => ⟨(hb.block _ (block_lt (h4 x hx).1)).trans (h4 x hx).1, (h4 x hx).2⟩⟩
theorem DkG.next (h2 : ∀ q ∈ F, w0.heap.size ≤ q) (h3 : Below w0.heap.size w0 w) (h4 : ∀ x ∈ G, w.heap[x.1]? = some x.2 ∧ x.1 ∉ F ∧ w0.heap.size ≤ x.1) (hc : Chg F w w1) (h : Dk w1 p s' F') (hf : Fresh F F' w) : DkG w0 w1 p s' G := by
  have hs := h3.size
  refine ⟨F', h, fun q hq => ?_, h3.trans (hc.below (B := w0.heap.size) h2 hs), fun x hx => ?_⟩
  · rcases hf q hq with h' | h'
    · exact h2 q h'
    · omega
  · obtain ⟨g1, g2, g3⟩ := h4 x hx
    refine ⟨(hc.block _ (block_lt g1) g2).trans g1, fun hm => ?_, g3⟩
    rcases hf _ hm with h' | h'
    · exact g2 h'
    · have := block_lt g1; omega
theorem DkG.add (h : DkG w0 w p s G) (o : Obj) : DkG w0 (w.alloc o) p s ((w.heap.size, o) :: G) := by
  have hlt : ∀ F, Dk w p s F → w.heap.size ∉ F := fun F hd hm => by have := hd.lt _ hm; omega
  obtain ⟨F, h1, h2, h3, h4⟩ := h.later ((Below.refl _ w).alloc (Nat.le_refl _) o)
  obtain ⟨F0, g1, g2, g3, g4⟩ := h
  refine ⟨F0, g1.keep (Chg.alloc (Chg.refl [] w) o) (fun _ _ hm => by cases hm), g2, h3, fun x hx => ?_⟩
  rcases List.mem_cons.1 hx with rfl | hx
  · exact ⟨block_new w o, hlt _ g1, g3.size⟩
  · exact ⟨(h4 x hx).1, (g4 x hx).2⟩
theorem DkG.set {b j : Nat} {C : Array Value} {T : TypeId} {fr : Nat × Nat} (h : DkG w0 w p s ((b, .cells C T fr) :: G)) (hb : ∀ x ∈ G, x.1 ≠ b) (v : Value) : DkG w0 (w.setCell ⟨b, j, none⟩ v) p s ((b, .cells (C.setIfInBounds j v) T fr) :: G) := by
  obtain ⟨F, h1, h2, h3, h4⟩ := h
  obtain ⟨g1, g2, g3⟩ := h4 _ (List.mem_cons_self ..)
  have hc : Chg [b] w (w.setCell ⟨b, j, none⟩ v) := (Chg.refl [b] w).setCell (.inl (by simp)) v
  refine ⟨F, h1.keep hc (fun q hq hm => g2 (List.mem_singleton.1 hm ▸ hq)), h2, h3.setCell g3 v, fun x hx => ?_⟩
  rcases List.mem_cons.1 hx with rfl | hx
  · exact ⟨block_setCell g1 v, g2, g3⟩
  · obtain ⟨k1, k2, k3⟩ := h4 x (List.mem_cons_of_mem _ hx)
    exact ⟨(block_setCell_other (hb x hx) v).trans k1, k2, k3⟩
end
theorem write_g (p at_ : Nat) (s : DSt) (a : Option Addr) (c : Nat) (d : List UInt8) (G : List (Nat × Obj)) (w0 w w1 : World) (h : DkG w0 w p s G) (hb : Below w.heap.size w w1) (ho : w1.ownsRow w.heap.size 5 1 (.slice a 64 c) 64 (d.map B8))
    (hat : at_ < s.sec.length) (hw : s.works < 4611686018427387904) (hpn : s.pend.length < 1099511627776) :
    Calls Try.prog 9 #[.pointer (some ⟨p, 0, none⟩), .int .i64 at_, .slice a 64 c] w1 fun e w' => e = .returned (.int .i64 (if s.can then 0 else 9)) ∧ DkG w0 w' p (s.write at_ d) G := by
  obtain ⟨F, h1, h2, h3, h4⟩ := h
  have hlt := h1.lt
  have h1' := h1.keep (Chg.of_below hb []) (fun _ _ hm => by cases hm)
  have h3' := h3.trans (hb.mono h3.size)
  refine (write_any p at_ s F a c d w1 h1' (RdB.of_own ho) (own_slice ho).2.1 (fun w2 hc => RdB.of_own (hc.owns ho (fun q hq hm => by have := ho.lt q hq; have := hlt q hm; omega))) hat hw hpn).mono ?_
  rintro e w' ⟨he, hc, F', hd, hf⟩
  exact ⟨he, DkG.next h2 h3' (fun x hx => ⟨(hb.block _ (block_lt (h4 x hx).1)).trans (h4 x hx).1, (h4 x hx).2⟩) hc hd hf⟩
theorem flush_g (p : Nat) (s : DSt) (G : List (Nat × Obj)) (w0 w : World) (h : DkG w0 w p s G) (hw : s.works < 4611686018427387904) :
    Calls Try.prog 11 #[.pointer (some ⟨p, 0, none⟩)] w fun e w' => e = .returned (.int .i64 (if s.can then 0 else 9)) ∧ DkG w0 w' p s.flush G := by
  obtain ⟨F, h1, h2, h3, h4⟩ := h
  by_cases hc : s.can = true
  · rw [if_pos hc]
    exact (flush_can p s F w h1 hc hw).mono fun e w' ⟨he, hc, F', hd, hf⟩ => ⟨he, DkG.next h2 h3 h4 hc hd hf⟩
  · rw [if_neg hc]
    exact (flush_cannot p s F w h1 (by simpa using hc)).mono fun e w' ⟨he, hc, F', hd, hf⟩ => ⟨he, DkG.next h2 h3 h4 hc hd hf⟩
theorem crash_g (p : Nat) (s : DSt) (aL : Option Addr) (nL cL : Nat) (l : List Int) (G : List (Nat × Obj)) (w0 w : World) (h : DkG w0 w p s G) (hr : RdC w aL nL (ints l)) (hl : ∀ z ∈ l, -9223372036854775808 ≤ z ∧ z ≤ 9223372036854775807)
    (hd : 0 < nL → ∀ b off sp, aL = some ⟨b, off, sp⟩ → b < w0.heap.size) :
    Calls Try.prog 12 #[.pointer (some ⟨p, 0, none⟩), .slice aL nL cL] w fun e w' => e = .returned (.tuple #[]) ∧ DkG w0 w' p (s.crash l) G := by
  obtain ⟨F, h1, h2, h3, h4⟩ := h
  refine (crash_any p s F aL nL cL l w h1 hr hl (fun w2 hc => by
    by_cases h0 : 0 < nL
    · exact hc.rdC hr (fun b off sp hb hm => by have := h2 b hm; have := hd h0 b off sp hb; omega)
    · obtain rfl : nL = 0 := by omega
      have := hr.len
      rw [List.eq_nil_of_length_eq_zero this]
      exact RdC.nil _ _)).mono ?_
  rintro e w' ⟨he, hc, F', hd, hf⟩
  exact ⟨he, DkG.next h2 h3 h4 hc hd hf⟩
theorem read_g (p at_ : Nat) (s : DSt) (G : List (Nat × Obj)) (w0 w : World) (h : DkG w0 w p s G) (hat : at_ < s.sec.length) :
    Calls Try.prog 14 #[.pointer (some ⟨p, 0, none⟩), .int .i64 at_] w fun e w' => ∃ a' n c', e = .returned (.tuple #[.slice a' n c', .int .i64 (s.read at_).2]) ∧ RdB w' a' n (s.read at_).1 ∧ DkG w0 w' p s G ∧ Below w.heap.size w w' := by
  obtain ⟨F, h1, h2, h3, h4⟩ := h
  exact (read_any p at_ s F w h1 hat).mono fun e w' ⟨a, n, c, he, hr, _, hb, hat⟩ => ⟨a, n, c, he, hr, DkG.later ⟨F, h1, h2, h3, h4⟩ hb, hb⟩
theorem pending_g (p : Nat) (s : DSt) (G : List (Nat × Obj)) (w0 w : World) (h : DkG w0 w p s G) (hsm : s.pend.length < 1099511627776) :
    Calls Try.prog 18 #[.pointer (some ⟨p, 0, none⟩)] w fun e w' => ∃ a c, e = .returned (.slice a s.pend.length c) ∧ DkG w0 w' p s G := by
  obtain ⟨F, h1, h2, h3, h4⟩ := h
  exact (pending_any p s F w h1 hsm).mono fun e w' ⟨a, c, he, hb⟩ => ⟨a, c, he, DkG.later ⟨F, h1, h2, h3, h4⟩ hb⟩
theorem down_g (p : Nat) (s : DSt) (G : List (Nat × Obj)) (w0 w : World) (h : DkG w0 w p s G) :
    Calls Try.prog 16 #[.pointer (some ⟨p, 0, none⟩)] w fun e w' => e = .returned (.bool s.down) ∧ w = w' :=
  let ⟨F, h1, _⟩ := h; down_any p s F w h1
def strs (L : List (List UInt8)) : Array Value := (L.map fun d => Value.string ⟨d.toArray⟩).toArray
theorem strs_get (L : List (List UInt8)) (k : Nat) (h : k < L.length) : (strs L)[k]? = some (.string ⟨(L.getD k []).toArray⟩) := by
  simp only [strs, List.getElem?_toArray, List.getElem?_map, List.getD_eq_getElem?_getD]
  rw [List.getElem?_eq_getElem h]; rfl
theorem strs_set (L : List (List UInt8)) (k : Nat) (d : List UInt8) : (strs L).setIfInBounds k (.string ⟨d.toArray⟩) = strs (L.set k d) := by
  apply Array.toList_inj.1
  simp [strs, List.map_set]

theorem steps_get {w : World} {aS : Option Addr} {nS cS : Nat} {l : List (Int × Int)} (h : ArgSl 5 StepR w (.slice aS nS cS) l) {k : Nat} (hk : k < nS) : ∃ b off zA zN, aS = some ⟨b, off, none⟩ ∧ w.cell? ⟨b, off + k * 5 + 1, none⟩ = some (.int .i64 zA) ∧ w.cell? ⟨b, off + k * 5 + 2, none⟩ = some (.int .i64 zN) := by
  obtain ⟨a, n, c, hv, hl, _, _, _, hc⟩ := h
  simp only [Value.slice.injEq] at hv
  obtain ⟨rfl, rfl, rfl⟩ := hv
  obtain ⟨b, off, cs, ha, h1, h2, v0, v3, v4, h3, _⟩ := hc k hk
  refine ⟨b, off, (l.getD k default).1, (l.getD k default).2, ha, ?_, ?_⟩
  · rw [h2 1 (by omega), h3]; rfl
  · rw [h2 2 (by omega), h3]; rfl
def SF (P : List (Nat × List UInt8)) : DSt := { sec := List.replicate 12 (zeros, false), pend := P, fuse := -1, down := false, works := P.length }
theorem SF_write (P : List (Nat × List UInt8)) (k : Nat) (d : List UInt8) : (SF P).write k d = SF (P ++ [(k, d)]) := by
  have : (SF P).can = true := rfl
  unfold DSt.write DSt.work
  rw [if_pos this, if_pos this]
  simp [SF]
  try rfl
def SG (sec : List (List UInt8 × Bool)) (P : List (Nat × List UInt8)) (k : Nat) : DSt := { sec := sec, pend := P, fuse := -1, down := false, works := k }
theorem SF_flush (P : List (Nat × List UInt8)) : (SF P).flush = SG (done (List.replicate 12 (zeros, false)) P) [] (P.length + 1) := rfl
theorem SG_write (sec : List (List UInt8 × Bool)) (P : List (Nat × List UInt8)) (m k : Nat) (d : List UInt8) : (SG sec P m).write k d = SG sec (P ++ [(k, d)]) (m + 1) := rfl
theorem SG_read (sec : List (List UInt8 × Bool)) (k j : Nat) (d : List UInt8) (h : sec[j]? = some (d, false)) : (SG sec [] k).read (j : Int) = (d, 0) := by
  have hj : j < sec.length := (List.getElem?_eq_some_iff.1 h).1
  unfold DSt.read
  rw [if_neg (by show ¬ ((j : Int) < 0 ∨ (sec.length : Int) ≤ j); omega)]
  have h1 : sec.getD (j : Int).toNat default = (d, false) := by rw [List.getD_eq_getElem?_getD, Int.toNat_natCast, h]; rfl
  show (if false = true then _ else match lastOf [] (j : Int).toNat with | some d => (d, (0 : Int)) | none => if (sec.getD (j : Int).toNat default).2 then (([] : List UInt8), (8 : Int)) else ((sec.getD (j : Int).toNat default).1, (0 : Int))) = _
  rw [h1]
  rfl
theorem DkG.grow {w0 w w1 : World} {p : Nat} {s : DSt} {G : List (Nat × Obj)} (h : DkG w0 w p s G) (hg : Grow w w1) : Below w.heap.size w w1 := hg
theorem SG_crash (sec : List (List UInt8 × Bool)) (P : List (Nat × List UInt8)) (m : Nat) (fates : List Int) : (SG sec P m).crash fates = SG (crashed fates sec 0 P) [] m := rfl
def bools2 (A : List Bool) : Array Value := (A.map fun z => Value.bool z).toArray
theorem bools2_get (A : List Bool) (k : Nat) (h : k < A.length) : (bools2 A)[k]? = some (.bool (A.getD k false)) := by
  simp only [bools2, List.getElem?_toArray, List.getElem?_map, List.getD_eq_getElem?_getD]
  rw [List.getElem?_eq_getElem h]; rfl
theorem bools2_set (A : List Bool) (k : Nat) (d : Bool) : (bools2 A).setIfInBounds k (.bool d) = bools2 (A.set k d) := by
  apply Array.toList_inj.1
  simp [bools2, List.map_set]
/-- what a sector is to have -/
def wantOf (P : List (Nat × List UInt8)) (z : Nat) : List UInt8 := (lastOf P z).getD zeros
theorem wantOf_snoc (P : List (Nat × List UInt8)) (k z : Nat) (d : List UInt8) : wantOf (P ++ [(k, d)]) z = if k = z then d else wantOf P z := by
  unfold wantOf
  rw [lastOf_snoc]
  by_cases h : k = z
  · rw [if_pos h, if_pos h]; rfl
  · rw [if_neg h, if_neg h]
theorem want_done (P : List (Nat × List UInt8)) (z : Nat) (hz : z < 12) : (done (List.replicate 12 (zeros, false)) P)[z]? = some (wantOf P z, false) := by
  obtain ⟨h1, _⟩ := done_at (List.replicate 12 (zeros, false)) z (by simpa using hz) P
  rw [h1]
  unfold wantOf
  cases lastOf P z with
  | none => show (List.replicate 12 (zeros, false))[z]? = _; rw [List.getElem?_replicate, if_pos hz]; rfl
  | some d => rfl
theorem diskFlushed_walk (aS : Option Addr) (nS cS : Nat) (l : List (Int × Int)) (aF : Option Addr) (nF cF : Nat) (lF : List Int) (w : World) (hS : ArgSl 5 StepR w (.slice aS nS cS) l) (hF : RdC w aF nF (ints lF)) (hFb : ∀ z ∈ lF, -9223372036854775808 ≤ z ∧ z ≤ 9223372036854775807) :
    Calls Try.prog 5 #[.slice aS nS cS, .slice aF nF cF] w fun e w' => e = .returned (.bool true) ∧ Below w.heap.size w w' := by
  obtain ⟨i, hi, hz0, hz1, hz2⟩ := info_parts dInfoB
  obtain ⟨C, hC, hmk⟩ : ∃ C, C = (zeros.map B8).toArray ∧ ∀ w : World, (Instr.makeSlice 30 (.int .i64 64) (.int .i64 64)).run Try.prog w = .ok (.slice (some ⟨w.heap.size, 0, none⟩) 64 64) (w.alloc (.cells C 5)) :=
    ⟨_, by rw [hz1]; exact Array.toList_inj.1 ((made_bytes 64).trans rfl), fun w => run_make (P := Try.prog) w 30 5 i (.int .u8 0) Try.underlying30 hi hz0 .i64 .i64 64 64 (by omega) (by omega) (by rw [hz2]; omega) (by omega)⟩
  have HC := hid hC; clear hC
  have HS := hid hS; have HF := hid hF; have HFB := hid hFb
  clear hS hF hFb
  go_enter Try.func5, Try.ntmps5
  go_wp2_with fail
  refine (new_s 12 w _ (Below.refl _ _) (by omega) (by omega)).mono ?_
  rintro e w1 ⟨p, rfl, h1⟩
  have H1 := hid h1; clear h1
  go_wp2_with fail
  refine (known3_any _).mono ?_
  rintro e w2 ⟨rfl, hb2⟩
  have H2 := hid (H1.out.later hb2); clear hb2
  go_wp2_with fail
  have H3 := hid ((DkG.of H2.out).add (.cells (strs (List.replicate 12 [])) 42 (0, 0)))
  generalize hb : w2.heap.size = b at H3 ⊢
  go_loopw [8] (fun x wr => ∃ (k : Nat) (L : List (List UInt8)), k ≤ 12 ∧ x = .int .i64 k ∧ L.length = 12 ∧ (∀ j, j < k → L.getD j [] = zeros) ∧ DkG w wr p (DSt.new 12) [(b, .cells (strs L) 42 (0, 0))]) (fun x _ => 12 - (intOf x).toNat)
  case atStart => exact ⟨0, List.replicate 12 [], Nat.zero_le _, rfl, rfl, (fun j hj => by omega), H3.out⟩
  case round =>
    obtain ⟨k, L, hk, rfl, hL, hLz, h4⟩ := hrel
    have H4 := hid h4; have HLZ := hid hLz
    clear h4 hLz
    by_cases hlt : k < 12
    · have h5 := H4.out.later ((Below.refl _ wr).alloc (Nat.le_refl _) (.cells C 5 (0, 0)))
      have hcell := cell_of_block (h5.blk (List.mem_cons_self ..)) (strs_get L k (by omega))
      have hfz := fun j => frozen_of_block (j := j) (h5.blk (List.mem_cons_self ..))
      have hst := run_bytes_str (P := Try.prog) (RdB.new wr zeros C 5 (0, 0) HC.out 64 (by simp [zeros]) _ rfl) 64 30 9 5 Try.underlying30 Try.underlying5 Try.underlying9
      have H6 := hid (h5.set (j := k) (fun x hx => by cases hx) (.string ⟨zeros.toArray⟩))
      clear h5
      generalize hzs : (⟨zeros.toArray⟩ : ByteArray) = zs at *
      go_wp2_with fail
      go_roundw
      case rel =>
        have h7 := H6.out
        rw [← hzs, strs_set] at h7
        refine ⟨k + 1, L.set k zeros, by omega, by go_num, by rw [List.length_set]; exact hL, (fun j hj => ?_), by rw [← hzs]; exact h7⟩
        rw [List.getD_eq_getElem?_getD]
        by_cases hjk : k = j
        · subst hjk; rw [List.getElem?_set_self (by omega)]; rfl
        · rw [List.getElem?_set_ne hjk, ← List.getD_eq_getElem?_getD]; exact HLZ.out j (by omega)
      case measure => simp [intOf]; omega
    · obtain rfl : k = 12 := by omega
      have h0 : DkG w wr p (SF []) [(b, .cells (strs L) 42 (0, 0))] := H4.out
      have H5 := hid h0; clear h0 H4
      go_upto_block 2 with (fail)
      go_cut [9] (fun _ wx => ∃ (L : List (List UInt8)) (P : List (Nat × List UInt8)), L.length = 12 ∧ P.length ≤ 30 ∧ (∀ j, j < 12 → L.getD j [] = wantOf P j) ∧ DkG w wx p (SF P) [(b, .cells (strs L) 42 (0, 0))])
      case first =>
        go_wp2_with fail
        go_loopw [9] (fun x wr => ∃ (k : Nat) (L : List (List UInt8)) (P : List (Nat × List UInt8)), k ≤ 30 ∧ k ≤ nS ∧ x = .int .i64 k ∧ L.length = 12 ∧ P.length = k ∧ (∀ j, j < 12 → L.getD j [] = wantOf P j) ∧ DkG w wr p (SF P) [(b, .cells (strs L) 42 (0, 0))]) (fun x _ => 30 - (intOf x).toNat)
        case atStart => exact ⟨0, L, [], Nat.zero_le _, Nat.zero_le _, rfl, hL, rfl, (fun j hj => HLZ.out j hj), H5.out⟩
        case round =>
          clear H5 HLZ hL H1 H2 H3
          obtain ⟨k, L, P, hk, hkn, rfl, hL, hP, hLz, h4⟩ := hrel
          have H4 := hid h4; have HLZ := hid hLz; have HP := hid hP
          clear h4 hLz
          have hP30 : P.length ≤ 30 := by omega
          clear hP
          by_cases hlt : k < 30
          · by_cases hln : k < nS
            · obtain ⟨bS, oS, zA, zN, hae, hcA, hcN⟩ := steps_get HS.out hln
              have hcA1 := cell_later H4.out.below hcA
              have hcN1 := cell_later H4.out.below hcN
              obtain ⟨q, hq, hq12⟩ : ∃ q : Nat, pick zA 12 = q ∧ q < 12 := ⟨(pick zA 12).toNat, by have := pick_lo zA 12 (by omega); omega, by have := pick_lo zA 12 (by omega); have := pick_hi zA 12 (by omega); omega⟩
              have HQ := hid hq; have HCN := hid hcN; have HAE := hid hae
              clear hq hcA hcN
              subst hae
              go_wp2_with fail
              refine (pick_any zA 12 _ (by omega) (by omega)).mono ?_
              rintro e w5 ⟨rfl, rfl⟩
              rw [HQ.out]
              go_wp2_with fail
              refine (sector_any zN _).mono ?_
              rintro e w6 ⟨a6, c6, rfl, ho6, hb6⟩
              have HO6 := hid ho6; have HB6 := hid hb6; clear ho6 hb6
              go_wp2_with fail
              refine (write_g p q (SF P) a6 c6 _ _ w _ _ H4.out HB6.out HO6.out (by simp [SF]; omega) (by show P.length < _; omega) (by show P.length < _; omega)).mono ?_
              rintro e w7 ⟨rfl, h7⟩
              rw [SF_write] at h7
              have hcN7 := cell_later h7.below HCN.out
              have H7 := hid h7; clear h7
              go_wp2_with fail
              refine (sector_any zN _).mono ?_
              rintro e w8 ⟨a8, c8, rfl, ho8, hb8⟩
              have hst := run_bytes_str (P := Try.prog) (RdB.of_own ho8) c8 30 9 5 Try.underlying30 Try.underlying5 Try.underlying9
              have h8 := H7.out.later hb8
              have hcell := cell_of_block (h8.blk (List.mem_cons_self ..)) (strs_get L q (by omega))
              have hfz := fun j => frozen_of_block (j := j) (h8.blk (List.mem_cons_self ..))
              have H8 := hid h8
              clear ho8 hb8 h8
              go_wp2_with fail
              go_roundw
              case rel =>
                have h9 := H8.out.set (j := q) (fun x hx => by cases hx) (.string ⟨(handBytes 64 zN).toArray⟩)
                rw [strs_set] at h9
                have hL2 : (L.set q (handBytes 64 zN)).length = 12 := by rw [List.length_set]; exact hL
                have hP2 : (P ++ [(q, handBytes 64 zN)]).length = k + 1 := by rw [List.length_append, HP.out]; rfl
                have hW2 : ∀ j, j < 12 → (L.set q (handBytes 64 zN)).getD j [] = wantOf (P ++ [(q, handBytes 64 zN)]) j := by
                  intro j hj
                  rw [wantOf_snoc, List.getD_eq_getElem?_getD]
                  by_cases hjk : q = j
                  · subst hjk; rw [List.getElem?_set_self (by omega), if_pos rfl]; rfl
                  · rw [List.getElem?_set_ne hjk, if_neg hjk, ← List.getD_eq_getElem?_getD]; exact HLZ.out j hj
                (repeat apply Exists.intro)
                exact ⟨⟨k + 1, L.set q (handBytes 64 zN), P ++ [(q, handBytes 64 zN)], by omega, by omega, by go_num, hL2, hP2, hW2, h9⟩, rfl⟩
              case measure => simp [intOf]; omega
            · obtain rfl : k = nS := by omega
              go_wp2_with fail
              go_meet
              exact ⟨L, P, hL, hP30, HLZ.out, H4.out⟩
          · obtain rfl : k = 30 := by omega
            by_cases hln : 30 < nS
            all_goals
              go_wp2_with fail
              go_meet
              exact ⟨L, P, hL, hP30, HLZ.out, H4.out⟩
      case rest =>
        clear H5 HLZ hL H1 H2 H3
        obtain ⟨L, P, hL, hP30, hLz, h4⟩ := hcut
        have HLZ := hid hLz; have H4 := hid h4
        clear hLz h4
        go_wp2_with fail
        refine (flush_g p (SF P) _ w _ H4.out (by show P.length < _; omega)).mono ?_
        rintro e w5 ⟨rfl, h5⟩
        rw [SF_flush] at h5
        have hsec := hid (fun z hz => want_done P z hz)
        have hsl := (done_at (List.replicate 12 (zeros, false)) 0 (by simp) P).2
        generalize done (List.replicate 12 (zeros, false)) P = sec at *
        have hsl12 : sec.length = 12 := by rw [hsl]; simp
        have H5 := hid h5
        clear h5 hsl H4
        go_upto_block 4 with (fail)
        have H6 := hid (H5.out.add (.cells (bools2 (List.replicate 12 false)) 45 (0, 0)))
        generalize hb2 : w5.heap.size = b2 at H6 ⊢
        have hbb : b2 ≠ b := by
          obtain ⟨F, _, _, _, h4⟩ := H5.out
          have := block_lt (h4 _ (List.mem_cons_self ..)).1
          simp only at this
          omega
        clear hb2 H5
        go_cut [12] (fun _ wx => ∃ (A : List Bool) (Q : List (Nat × List UInt8)) (m : Nat), A.length = 12 ∧ (∀ j, A.getD j false = false → ∀ x ∈ Q, x.1 ≠ j) ∧ DkG w wx p (SG sec Q m) [(b2, .cells (bools2 A) 45 (0, 0)), (b, .cells (strs L) 42 (0, 0))])
        case first =>
          go_wp2_with fail
          go_loopw [12] (fun x wr => ∃ (k : Nat) (A : List Bool) (Q : List (Nat × List UInt8)) (m : Nat), k ≤ 9 ∧ k ≤ nS ∧ x = .int .i64 k ∧ A.length = 12 ∧ Q.length ≤ k ∧ m ≤ 31 + k ∧ (∀ j, A.getD j false = false → ∀ x ∈ Q, x.1 ≠ j) ∧ DkG w wr p (SG sec Q m) [(b2, .cells (bools2 A) 45 (0, 0)), (b, .cells (strs L) 42 (0, 0))]) (fun x _ => 9 - (intOf x).toNat)
          case atStart => exact ⟨0, _, [], _, Nat.zero_le _, Nat.zero_le _, rfl, rfl, Nat.le_refl _, by omega, (fun j _ x hx => by cases hx), H6.out⟩
          case round =>
            clear H6
            obtain ⟨k, A, Q, m, hk, hkn, rfl, hA, hQ, hm, hAQ, h4⟩ := hrel
            have H4 := hid h4; have HAQ := hid hAQ
            clear h4 hAQ
            by_cases hln : k < nS
            · by_cases hlt : k < 9
              · obtain ⟨bS, oS, zA, zN, hae, hcA, hcN⟩ := steps_get HS.out hln
                have hcA1 := cell_later H4.out.below hcA
                have hcN1 := cell_later H4.out.below hcN
                obtain ⟨q, hq, hq12⟩ : ∃ q : Nat, pick zN 12 = q ∧ q < 12 := ⟨(pick zN 12).toNat, by have := pick_lo zN 12 (by omega); omega, by have := pick_lo zN 12 (by omega); have := pick_hi zN 12 (by omega); omega⟩
                have HQ := hid hq
                clear hq hcA hcN
                subst hae
                go_wp2_with fail
                refine (pick_any zN 12 _ (by omega) (by omega)).mono ?_
                rintro e w5 ⟨rfl, rfl⟩
                rw [HQ.out]
                go_wp2_with fail
                refine (sector_any zA _).mono ?_
                rintro e w6 ⟨a6, c6, rfl, ho6, hb6⟩
                have HO6 := hid ho6; have HB6 := hid hb6; clear ho6 hb6
                go_wp2_with fail
                refine (write_g p q (SG sec Q m) a6 c6 _ _ w _ _ H4.out HB6.out HO6.out (by show q < sec.length; omega) (by show m < _; omega) (by show Q.length < _; omega)).mono ?_
                rintro e w7 ⟨rfl, h7⟩
                rw [SG_write] at h7
                have hcell := cell_of_block (h7.blk (List.mem_cons_self ..)) (bools2_get A q (by omega))
                have hfz := fun j => frozen_of_block (j := j) (h7.blk (List.mem_cons_self ..))
                have H7 := hid h7; clear h7
                go_wp2_with fail
                go_roundw
                case rel =>
                  have h9 := H7.out.set (j := q) (fun x hx => by
                    rcases List.mem_cons.1 hx with rfl | hx
                    · exact hbb.symm
                    · cases hx) (.bool true)
                  rw [bools2_set] at h9
                  have hA2 : (A.set q true).length = 12 := by rw [List.length_set]; exact hA
                  have hW2 : ∀ j, (A.set q true).getD j false = false → ∀ x ∈ Q ++ [(q, handBytes 64 zA)], x.1 ≠ j := by
                    intro j hj x hx
                    rw [List.getD_eq_getElem?_getD] at hj
                    by_cases hjk : q = j
                    · subst hjk; rw [List.getElem?_set_self (by omega)] at hj; cases hj
                    · rw [List.getElem?_set_ne hjk, ← List.getD_eq_getElem?_getD] at hj
                      rcases List.mem_append.1 hx with hx | hx
                      · exact HAQ.out j hj x hx
                      · rw [List.mem_singleton.1 hx]; exact hjk
                  have hQ2 : (Q ++ [(q, handBytes 64 zA)]).length ≤ k + 1 := by rw [List.length_append]; simp; omega
                  first
                    | exact ⟨k + 1, A.set q true, Q ++ [(q, handBytes 64 zA)], m + 1, by omega, by omega, by go_num, hA2, hQ2, by omega, hW2, h9⟩
                    | ((repeat apply Exists.intro); exact ⟨⟨k + 1, A.set q true, Q ++ [(q, handBytes 64 zA)], m + 1, by omega, by omega, by go_num, hA2, hQ2, by omega, hW2, h9⟩, rfl⟩)
                case measure => simp [intOf]; omega
              · obtain rfl : k = 9 := by omega
                go_wp2_with fail
                go_meet
                exact ⟨A, Q, m, hA, HAQ.out, H4.out⟩
            · obtain rfl : k = nS := by omega
              go_wp2_with fail
              go_meet
              exact ⟨A, Q, m, hA, HAQ.out, H4.out⟩
        case rest =>
          clear H6
          obtain ⟨A, Q, m, hA, hAQ, h4⟩ := hcut
          have H4 := hid h4; have HAQ := hid hAQ
          clear h4 hAQ
          go_wp2_with fail
          refine (crash_g p _ aF nF cF lF _ w _ H4.out (HF.out.below H4.out.below) HFB.out (fun h0 b off sp he => by
            obtain ⟨b', off', he', hc⟩ := HF.out.cell 0 h0
            have hl : (ints lF).length = nF := HF.out.len
            rw [he] at he'; cases he'
            exact World.block_lt_of_cell? _ _ (hc 0 ((ints lF)[0]'(by omega)) (List.getElem?_eq_getElem (by omega))))).mono ?_
          rintro e w9 ⟨rfl, h9⟩
          rw [SG_crash] at h9
          have hcr : Hid (∀ j, A.getD j false = false → (crashed lF sec 0 Q)[j]? = sec[j]?) := fun j hj => crashedF_other lF j Q sec 0 (HAQ.out j hj)
          have hcl : (crashed lF sec 0 Q).length = 12 := by rw [crashedF_len]; exact hsl12
          generalize crashed lF sec 0 Q = sec2 at *
          have H9 := hid h9
          clear h9 H4
          go_upto_block 6 with (fail)
          go_cut [14] (fun _ wx => DkG w wx p (SG sec2 [] m) [(b2, .cells (bools2 A) 45 (0, 0)), (b, .cells (strs L) 42 (0, 0))])
          case first =>
            go_wp2_with fail
            go_loopw [14] (fun x wr => ∃ (k : Nat), k ≤ 12 ∧ x = .int .i64 k ∧ DkG w wr p (SG sec2 [] m) [(b2, .cells (bools2 A) 45 (0, 0)), (b, .cells (strs L) 42 (0, 0))]) (fun x _ => 12 - (intOf x).toNat)
            case atStart => exact ⟨0, Nat.zero_le _, rfl, H9.out⟩
            case round =>
              clear H9
              obtain ⟨k, hk, rfl, h4⟩ := hrel
              have H4 := hid h4
              clear h4
              by_cases hlt : k < 12
              · go_wp2_with fail
                refine (read_g p k _ _ w _ H4.out (by show k < sec2.length; omega)).mono ?_
                rintro e w10 ⟨a10, n10, c10, rfl, hr10, h10, hb10⟩
                have HR := hid hr10; have H10 := hid h10
                clear hr10 h10 hb10 H4
                by_cases hag : A.getD k false = true
                · generalize hee : (DSt.read (SG sec2 [] m) (k : Int)).2 = ee at *
                  clear hee
                  have HAG := hid hag; clear hag
                  go_upto_region 30 with (fail)
                  refine wp_region_each 16 [.eq (.int .i64 (k : Int)), .eq (.pointer (some ⟨b2, k, none⟩)), .eq (.bool true), .eq (.bool false), .eq (.bool false), .eq undef, .eq undef, .eq undef, .eq undef, .eq undef, .eq undef, .eq undef, .eq undef, .eq undef, .eq undef, .eq (.bool false)] (by kernel_rfl) (by kernel_rfl) (by kernel_rfl) (by kernel_rfl) ?_ ?_
                  · refine each_c (o' := _) ?_ (each_c (o' := _) ?_ (each_c (o' := _) ?_ (each_c (o' := _) ?_ (each_c (o' := _) ?_ (each_c (o' := _) ?_ (each_c (o' := _) ?_ (each_c (o' := _) ?_ (each_c (o' := _) ?_ (each_c (o' := _) ?_ (each_c (o' := _) ?_ (each_c (o' := _) ?_ (each_c (o' := _) ?_ (each_c (o' := _) ?_ (each_c (o' := _) ?_ (each_c (o' := _) ?_ (each_n))))))))))))))))
                    -- 0: move t14
                    · intro w1 hg Ar seen
                      have s14 := seen.slot 14 (v := .int .i64 (k : Int)) (by kernel_rfl) rfl
                      refine does_plain rfl fun K Q' hK => ?_
                      go_simp; exact hK _ _ (Grow.refl _) rfl
                    -- 1: indexAddr 45 t11 t117
                    · intro w1 hg Ar seen
                      obtain ⟨v0, e0, h0⟩ := seen.dep 0 (d := 117) (by kernel_rfl) (by kernel_rfl) rfl
                      rcases h0 with rfl
                      have s11 := seen.slot 11 (v := .pointer (some ⟨b2, 0, none⟩)) (by kernel_rfl) rfl
                      refine does_plain rfl fun K Q' hK => ?_
                      go_simp; exact hK _ _ (Grow.refl _) rfl
                    -- 2: load 4 t118
                    · intro w1 hg Ar seen
                      obtain ⟨v1, e1, h1⟩ := seen.dep 1 (d := 118) (by kernel_rfl) (by kernel_rfl) rfl
                      rcases h1 with rfl
                      refine does_plain rfl fun K Q' hK => ?_
                      have hcell := cell_of_block ((H10.out.later hg).blk (List.mem_cons_self ..)) (bools2_get A k (by omega))
                      rw [HAG.out] at hcell
                      go_simp; exact hK _ _ (Grow.refl _) rfl
                    -- 3: unOp UnOp.not 4 t119
                    · intro w1 hg Ar seen
                      obtain ⟨v2, e2, h2⟩ := seen.dep 2 (d := 119) (by kernel_rfl) (by kernel_rfl) rfl
                      rcases h2 with rfl
                      refine does_plain rfl fun K Q' hK => ?_
                      go_simp; exact hK _ _ (Grow.refl _) rfl
                    -- 4: move t120
                    · intro w1 hg Ar seen
                      obtain ⟨v3, e3, h3⟩ := seen.dep 3 (d := 120) (by kernel_rfl) (by kernel_rfl) rfl
                      rcases h3 with rfl
                      refine does_plain rfl fun K Q' hK => ?_
                      go_simp; exact hK _ _ (Grow.refl _) rfl
                    -- 5: move t16
                    · intro w1 hg Ar seen
                      obtain ⟨v4, e4, h4⟩ := seen.dep 4 (d := 121) (by kernel_rfl) (by kernel_rfl) rfl
                      rcases h4 with rfl
                      exact does_off rfl (by kernel_rfl) e4 ne_ft (Grow.refl _) rfl
                    -- 6: binOp BinOp.neq 25 t122 0:i64 25
                    · intro w1 hg Ar seen
                      obtain ⟨v4, e4, h4⟩ := seen.dep 4 (d := 121) (by kernel_rfl) (by kernel_rfl) rfl
                      rcases h4 with rfl
                      exact does_off rfl (by kernel_rfl) e4 ne_ft (Grow.refl _) rfl
                    -- 7: move t123
                    · intro w1 hg Ar seen
                      obtain ⟨v4, e4, h4⟩ := seen.dep 4 (d := 121) (by kernel_rfl) (by kernel_rfl) rfl
                      rcases h4 with rfl
                      exact does_off rfl (by kernel_rfl) e4 ne_ft (Grow.refl _) rfl
                    -- 8: move t15
                    · intro w1 hg Ar seen
                      obtain ⟨v7, e7, h7⟩ := seen.dep 7 (d := 124) (by kernel_rfl) (by kernel_rfl) rfl
                      rcases h7 with rfl
                      exact does_off rfl (by kernel_rfl) e7 (ne_un _) (Grow.refl _) rfl
                    -- 9: convert 30 9 t125
                    · intro w1 hg Ar seen
                      obtain ⟨v7, e7, h7⟩ := seen.dep 7 (d := 124) (by kernel_rfl) (by kernel_rfl) rfl
                      rcases h7 with rfl
                      exact does_off rfl (by kernel_rfl) e7 (ne_un _) (Grow.refl _) rfl
                    -- 10: move t14
                    · intro w1 hg Ar seen
                      obtain ⟨v7, e7, h7⟩ := seen.dep 7 (d := 124) (by kernel_rfl) (by kernel_rfl) rfl
                      rcases h7 with rfl
                      exact does_off rfl (by kernel_rfl) e7 (ne_un _) (Grow.refl _) rfl
                    -- 11: indexAddr 42 t7 t127
                    · intro w1 hg Ar seen
                      obtain ⟨v7, e7, h7⟩ := seen.dep 7 (d := 124) (by kernel_rfl) (by kernel_rfl) rfl
                      rcases h7 with rfl
                      exact does_off rfl (by kernel_rfl) e7 (ne_un _) (Grow.refl _) rfl
                    -- 12: load 9 t128
                    · intro w1 hg Ar seen
                      obtain ⟨v7, e7, h7⟩ := seen.dep 7 (d := 124) (by kernel_rfl) (by kernel_rfl) rfl
                      rcases h7 with rfl
                      exact does_off rfl (by kernel_rfl) e7 (ne_un _) (Grow.refl _) rfl
                    -- 13: binOp BinOp.neq 9 t126 t129 9
                    · intro w1 hg Ar seen
                      obtain ⟨v7, e7, h7⟩ := seen.dep 7 (d := 124) (by kernel_rfl) (by kernel_rfl) rfl
                      rcases h7 with rfl
                      exact does_off rfl (by kernel_rfl) e7 (ne_un _) (Grow.refl _) rfl
                    -- 14: pick t124 true t130
                    · intro w1 hg Ar seen
                      obtain ⟨v4, e4, h4⟩ := seen.dep 4 (d := 121) (by kernel_rfl) (by kernel_rfl) rfl
                      rcases h4 with rfl
                      exact does_off rfl (by kernel_rfl) e4 ne_ft (Grow.refl _) rfl
                    -- 15: pick t121 t131 false
                    · intro w1 hg Ar seen
                      obtain ⟨v4, e4, h4⟩ := seen.dep 4 (d := 121) (by kernel_rfl) (by kernel_rfl) rfl
                      rcases h4 with rfl
                      obtain ⟨v14, e14, h14⟩ := seen.dep 14 (d := 131) (by kernel_rfl) (by kernel_rfl) rfl
                      rcases h14 with rfl
                      refine does_plain rfl fun K Q' hK => ?_
                      go_simp; exact hK _ _ (Grow.refl _) rfl
                  intro w1 hg
                  refine upon_w' (js := [0, 1, 2, 3, 4, 5, 6, 7, 8, 9, 10, 11, 12, 13, 14, 15]) (by rfl) ?_
                  refine upon_c (x := some 117) (by kernel_rfl) rfl fun v0 h0 => ?_
                  rcases h0 with rfl
                  refine upon_c (x := some 118) (by kernel_rfl) rfl fun v1 h1 => ?_
                  rcases h1 with rfl
                  refine upon_c (x := some 119) (by kernel_rfl) rfl fun v2 h2 => ?_
                  rcases h2 with rfl
                  refine upon_c (x := some 120) (by kernel_rfl) rfl fun v3 h3 => ?_
                  rcases h3 with rfl
                  refine upon_c (x := some 121) (by kernel_rfl) rfl fun v4 h4 => ?_
                  rcases h4 with rfl
                  refine upon_c (x := some 122) (by kernel_rfl) rfl fun v5 h5 => ?_
                  rcases h5 with rfl
                  refine upon_c (x := some 123) (by kernel_rfl) rfl fun v6 h6 => ?_
                  rcases h6 with rfl
                  refine upon_c (x := some 124) (by kernel_rfl) rfl fun v7 h7 => ?_
                  rcases h7 with rfl
                  refine upon_c (x := some 125) (by kernel_rfl) rfl fun v8 h8 => ?_
                  rcases h8 with rfl
                  refine upon_c (x := some 126) (by kernel_rfl) rfl fun v9 h9 => ?_
                  rcases h9 with rfl
                  refine upon_c (x := some 127) (by kernel_rfl) rfl fun v10 h10 => ?_
                  rcases h10 with rfl
                  refine upon_c (x := some 128) (by kernel_rfl) rfl fun v11 h11 => ?_
                  rcases h11 with rfl
                  refine upon_c (x := some 129) (by kernel_rfl) rfl fun v12 h12 => ?_
                  rcases h12 with rfl
                  refine upon_c (x := some 130) (by kernel_rfl) rfl fun v13 h13 => ?_
                  rcases h13 with rfl
                  refine upon_c (x := some 131) (by kernel_rfl) rfl fun v14 h14 => ?_
                  rcases h14 with rfl
                  refine upon_c (x := some 132) (by kernel_rfl) rfl fun v15 h15 => ?_
                  rcases h15 with rfl
                  refine upon_n ?_
                  go_simp
                  go_wp2_with fail
                  go_roundw
                  case rel => first | exact ⟨k + 1, by omega, by go_num, H10.out.later hg⟩ | ((repeat apply Exists.intro); exact ⟨⟨k + 1, by omega, by go_num, H10.out.later hg⟩, rfl⟩)
                  case measure => simp [intOf]; omega
                · have hx : sec2[k]? = some (wantOf P k, false) := by
                    rw [hcr.out k (by simpa using hag)]; exact hsec.out k hlt
                  have hrd : (SG sec2 [] m).read (k : Int) = (wantOf P k, 0) := SG_read sec2 m k _ hx
                  have hr := HR.out
                  rw [hrd] at hr ⊢
                  have HR2 := hid hr
                  have HAG := hid (show A.getD k false = false by simpa using hag)
                  have hstr := strs_get L k (by omega)
                  rw [HLZ.out k hlt] at hstr
                  have HST := hid hstr
                  clear hr hrd HR hx hag hstr
                  generalize wantOf P k = X at *
                  go_upto_region 30 with (fail)
                  refine wp_region_each 16 [.eq (.int .i64 (k : Int)), .eq (.pointer (some ⟨b2, k, none⟩)), .eq (.bool false), .eq (.bool true), .eq (.bool true), .eq (.int .i64 0), .eq (.bool false), .eq (.bool false), .eq (.slice a10 n10 c10), .eq (.string ⟨X.toArray⟩), .eq (.int .i64 (k : Int)), .eq (.pointer (some ⟨b, k, none⟩)), .eq (.string ⟨X.toArray⟩), .eq (.bool false), .eq (.bool false), .eq (.bool false)] (by kernel_rfl) (by kernel_rfl) (by kernel_rfl) (by kernel_rfl) ?_ ?_
                  · refine each_c (o' := _) ?_ (each_c (o' := _) ?_ (each_c (o' := _) ?_ (each_c (o' := _) ?_ (each_c (o' := _) ?_ (each_c (o' := _) ?_ (each_c (o' := _) ?_ (each_c (o' := _) ?_ (each_c (o' := _) ?_ (each_c (o' := _) ?_ (each_c (o' := _) ?_ (each_c (o' := _) ?_ (each_c (o' := _) ?_ (each_c (o' := _) ?_ (each_c (o' := _) ?_ (each_c (o' := _) ?_ (each_n))))))))))))))))
                    -- 0: move t14
                    · intro w1 hg Ar seen
                      have s14 := seen.slot 14 (v := .int .i64 (k : Int)) (by kernel_rfl) rfl
                      refine does_plain rfl fun K Q' hK => ?_
                      go_simp; exact hK _ _ (Grow.refl _) rfl
                    -- 1: indexAddr 45 t11 t117
                    · intro w1 hg Ar seen
                      obtain ⟨v0, e0, h0⟩ := seen.dep 0 (d := 117) (by kernel_rfl) (by kernel_rfl) rfl
                      rcases h0 with rfl
                      have s11 := seen.slot 11 (v := .pointer (some ⟨b2, 0, none⟩)) (by kernel_rfl) rfl
                      refine does_plain rfl fun K Q' hK => ?_
                      go_simp; exact hK _ _ (Grow.refl _) rfl
                    -- 2: load 4 t118
                    · intro w1 hg Ar seen
                      obtain ⟨v1, e1, h1⟩ := seen.dep 1 (d := 118) (by kernel_rfl) (by kernel_rfl) rfl
                      rcases h1 with rfl
                      refine does_plain rfl fun K Q' hK => ?_
                      have hcell := cell_of_block ((H10.out.later hg).blk (List.mem_cons_self ..)) (bools2_get A k (by omega))
                      rw [HAG.out] at hcell
                      go_simp; exact hK _ _ (Grow.refl _) rfl
                    -- 3: unOp UnOp.not 4 t119
                    · intro w1 hg Ar seen
                      obtain ⟨v2, e2, h2⟩ := seen.dep 2 (d := 119) (by kernel_rfl) (by kernel_rfl) rfl
                      rcases h2 with rfl
                      refine does_plain rfl fun K Q' hK => ?_
                      go_simp; exact hK _ _ (Grow.refl _) rfl
                    -- 4: move t120
                    · intro w1 hg Ar seen
                      obtain ⟨v3, e3, h3⟩ := seen.dep 3 (d := 120) (by kernel_rfl) (by kernel_rfl) rfl
                      rcases h3 with rfl
                      refine does_plain rfl fun K Q' hK => ?_
                      go_simp; exact hK _ _ (Grow.refl _) rfl
                    -- 5: move t16
                    · intro w1 hg Ar seen
                      obtain ⟨v4, e4, h4⟩ := seen.dep 4 (d := 121) (by kernel_rfl) (by kernel_rfl) rfl
                      rcases h4 with rfl
                      have s16 := seen.slot 16 (v := .int .i64 0) (by kernel_rfl) rfl
                      refine does_on rfl (by kernel_rfl) e4 fun K Q' hK => ?_
                      clear e4
                      go_simp; exact hK _ _ (Grow.refl _) rfl
                    -- 6: binOp BinOp.neq 25 t122 0:i64 25
                    · intro w1 hg Ar seen
                      obtain ⟨v5, e5, h5⟩ := seen.dep 5 (d := 122) (by kernel_rfl) (by kernel_rfl) rfl
                      rcases h5 with rfl
                      obtain ⟨v4, e4, h4⟩ := seen.dep 4 (d := 121) (by kernel_rfl) (by kernel_rfl) rfl
                      rcases h4 with rfl
                      refine does_on rfl (by kernel_rfl) e4 fun K Q' hK => ?_
                      clear e4
                      go_simp; exact hK _ _ (Grow.refl _) rfl
                    -- 7: move t123
                    · intro w1 hg Ar seen
                      obtain ⟨v6, e6, h6⟩ := seen.dep 6 (d := 123) (by kernel_rfl) (by kernel_rfl) rfl
                      rcases h6 with rfl
                      obtain ⟨v4, e4, h4⟩ := seen.dep 4 (d := 121) (by kernel_rfl) (by kernel_rfl) rfl
                      rcases h4 with rfl
                      refine does_on rfl (by kernel_rfl) e4 fun K Q' hK => ?_
                      clear e4
                      go_simp; exact hK _ _ (Grow.refl _) rfl
                    -- 8: move t15
                    · intro w1 hg Ar seen
                      obtain ⟨v7, e7, h7⟩ := seen.dep 7 (d := 124) (by kernel_rfl) (by kernel_rfl) rfl
                      rcases h7 with rfl
                      have s15 := seen.slot 15 (v := .slice a10 n10 c10) (by kernel_rfl) rfl
                      refine does_on rfl (by kernel_rfl) e7 fun K Q' hK => ?_
                      clear e7
                      go_simp; exact hK _ _ (Grow.refl _) rfl
                    -- 9: convert 30 9 t125
                    · intro w1 hg Ar seen
                      obtain ⟨v8, e8, h8⟩ := seen.dep 8 (d := 125) (by kernel_rfl) (by kernel_rfl) rfl
                      rcases h8 with rfl
                      obtain ⟨v7, e7, h7⟩ := seen.dep 7 (d := 124) (by kernel_rfl) (by kernel_rfl) rfl
                      rcases h7 with rfl
                      refine does_on rfl (by kernel_rfl) e7 fun K Q' hK => ?_
                      clear e7
                      have s := run_bytes_str (P := Try.prog) (HR2.out.below (DkG.grow H10.out hg)) c10 30 9 5 Try.underlying30 Try.underlying5 Try.underlying9
                      go_simp; exact hK _ _ (Grow.refl _) rfl
                    -- 10: move t14
                    · intro w1 hg Ar seen
                      obtain ⟨v7, e7, h7⟩ := seen.dep 7 (d := 124) (by kernel_rfl) (by kernel_rfl) rfl
                      rcases h7 with rfl
                      have s14 := seen.slot 14 (v := .int .i64 (k : Int)) (by kernel_rfl) rfl
                      refine does_on rfl (by kernel_rfl) e7 fun K Q' hK => ?_
                      clear e7
                      go_simp; exact hK _ _ (Grow.refl _) rfl
                    -- 11: indexAddr 42 t7 t127
                    · intro w1 hg Ar seen
                      obtain ⟨v10, e10, h10⟩ := seen.dep 10 (d := 127) (by kernel_rfl) (by kernel_rfl) rfl
                      rcases h10 with rfl
                      obtain ⟨v7, e7, h7⟩ := seen.dep 7 (d := 124) (by kernel_rfl) (by kernel_rfl) rfl
                      rcases h7 with rfl
                      have s7 := seen.slot 7 (v := .pointer (some ⟨b, 0, none⟩)) (by kernel_rfl) rfl
                      refine does_on rfl (by kernel_rfl) e7 fun K Q' hK => ?_
                      clear e7
                      go_simp; exact hK _ _ (Grow.refl _) rfl
                    -- 12: load 9 t128
                    · intro w1 hg Ar seen
                      obtain ⟨v11, e11, h11⟩ := seen.dep 11 (d := 128) (by kernel_rfl) (by kernel_rfl) rfl
                      rcases h11 with rfl
                      obtain ⟨v7, e7, h7⟩ := seen.dep 7 (d := 124) (by kernel_rfl) (by kernel_rfl) rfl
                      rcases h7 with rfl
                      refine does_on rfl (by kernel_rfl) e7 fun K Q' hK => ?_
                      clear e7
                      have hcell := cell_of_block ((H10.out.later hg).blk (List.mem_cons_of_mem _ (List.mem_cons_self ..))) HST.out
                      go_simp; exact hK _ _ (Grow.refl _) rfl
                    -- 13: binOp BinOp.neq 9 t126 t129 9
                    · intro w1 hg Ar seen
                      obtain ⟨v9, e9, h9⟩ := seen.dep 9 (d := 126) (by kernel_rfl) (by kernel_rfl) rfl
                      rcases h9 with rfl
                      obtain ⟨v12, e12, h12⟩ := seen.dep 12 (d := 129) (by kernel_rfl) (by kernel_rfl) rfl
                      rcases h12 with rfl
                      obtain ⟨v7, e7, h7⟩ := seen.dep 7 (d := 124) (by kernel_rfl) (by kernel_rfl) rfl
                      rcases h7 with rfl
                      refine does_on rfl (by kernel_rfl) e7 fun K Q' hK => ?_
                      clear e7
                      go_simp; exact hK _ _ (Grow.refl _) rfl
                    -- 14: pick t124 true t130
                    · intro w1 hg Ar seen
                      obtain ⟨v7, e7, h7⟩ := seen.dep 7 (d := 124) (by kernel_rfl) (by kernel_rfl) rfl
                      rcases h7 with rfl
                      obtain ⟨v13, e13, h13⟩ := seen.dep 13 (d := 130) (by kernel_rfl) (by kernel_rfl) rfl
                      rcases h13 with rfl
                      obtain ⟨v4, e4, h4⟩ := seen.dep 4 (d := 121) (by kernel_rfl) (by kernel_rfl) rfl
                      rcases h4 with rfl
                      refine does_on rfl (by kernel_rfl) e4 fun K Q' hK => ?_
                      clear e4
                      go_simp; exact hK _ _ (Grow.refl _) rfl
                    -- 15: pick t121 t131 false
                    · intro w1 hg Ar seen
                      obtain ⟨v4, e4, h4⟩ := seen.dep 4 (d := 121) (by kernel_rfl) (by kernel_rfl) rfl
                      rcases h4 with rfl
                      obtain ⟨v14, e14, h14⟩ := seen.dep 14 (d := 131) (by kernel_rfl) (by kernel_rfl) rfl
                      rcases h14 with rfl
                      refine does_plain rfl fun K Q' hK => ?_
                      go_simp; exact hK _ _ (Grow.refl _) rfl
                  intro w1 hg
                  refine upon_w' (js := [0, 1, 2, 3, 4, 5, 6, 7, 8, 9, 10, 11, 12, 13, 14, 15]) (by rfl) ?_
                  refine upon_c (x := some 117) (by kernel_rfl) rfl fun v0 h0 => ?_
                  rcases h0 with rfl
                  refine upon_c (x := some 118) (by kernel_rfl) rfl fun v1 h1 => ?_
                  rcases h1 with rfl
                  refine upon_c (x := some 119) (by kernel_rfl) rfl fun v2 h2 => ?_
                  rcases h2 with rfl
                  refine upon_c (x := some 120) (by kernel_rfl) rfl fun v3 h3 => ?_
                  rcases h3 with rfl
                  refine upon_c (x := some 121) (by kernel_rfl) rfl fun v4 h4 => ?_
                  rcases h4 with rfl
                  refine upon_c (x := some 122) (by kernel_rfl) rfl fun v5 h5 => ?_
                  rcases h5 with rfl
                  refine upon_c (x := some 123) (by kernel_rfl) rfl fun v6 h6 => ?_
                  rcases h6 with rfl
                  refine upon_c (x := some 124) (by kernel_rfl) rfl fun v7 h7 => ?_
                  rcases h7 with rfl
                  refine upon_c (x := some 125) (by kernel_rfl) rfl fun v8 h8 => ?_
                  rcases h8 with rfl
                  refine upon_c (x := some 126) (by kernel_rfl) rfl fun v9 h9 => ?_
                  rcases h9 with rfl
                  refine upon_c (x := some 127) (by kernel_rfl) rfl fun v10 h10 => ?_
                  rcases h10 with rfl
                  refine upon_c (x := some 128) (by kernel_rfl) rfl fun v11 h11 => ?_
                  rcases h11 with rfl
                  refine upon_c (x := some 129) (by kernel_rfl) rfl fun v12 h12 => ?_
                  rcases h12 with rfl
                  refine upon_c (x := some 130) (by kernel_rfl) rfl fun v13 h13 => ?_
                  rcases h13 with rfl
                  refine upon_c (x := some 131) (by kernel_rfl) rfl fun v14 h14 => ?_
                  rcases h14 with rfl
                  refine upon_c (x := some 132) (by kernel_rfl) rfl fun v15 h15 => ?_
                  rcases h15 with rfl
                  refine upon_n ?_
                  go_simp
                  go_wp2_with fail
                  go_roundw
                  case rel => first | exact ⟨k + 1, by omega, by go_num, H10.out.later hg⟩ | ((repeat apply Exists.intro); exact ⟨⟨k + 1, by omega, by go_num, H10.out.later hg⟩, rfl⟩)
                  case measure => simp [intOf]; omega
              · obtain rfl : k = 12 := by omega
                go_wp2_with fail
                go_meet
                exact H4.out
          case rest =>
            have H10 := hid hcut
            clear hcut H9
            go_wp2_with fail
            refine (pending_g p _ _ w _ H10.out (by show 0 < _; omega)).mono ?_
            rintro e w11 ⟨a11, c11, rfl, h11⟩
            have H11 := hid h11; clear h11
            go_wp2_with fail
            refine (down_g p _ _ w _ H11.out).mono ?_
            rintro e w12 ⟨rfl, rfl⟩
            go_wp2_with fail
            go_ret
            exact ⟨rfl, H11.out.below⟩
end Go.Proofs.Ythcjiiknhldgoaa
