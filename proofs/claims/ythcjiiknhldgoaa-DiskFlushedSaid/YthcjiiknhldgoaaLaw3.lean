/- Chapter 3's statements: the calls as they stand in a law; the examples. -/
import Derived.Test.YthcjiiknhldgoaaDisk7
namespace Go.Proofs.Ythcjiiknhldgoaa
open Go.RowKit
set_option linter.unusedVariables false
set_option linter.unusedSimpArgs false
set_option maxRecDepth 100000
set_option maxHeartbeats 1000000

abbrev Kept := List (Option Addr × Nat × List UInt8)
def KeptOk (w : World) (F : List Nat) (L : Kept) : Prop := ∀ x ∈ L, RdB w x.1 x.2.1 x.2.2 ∧ ∀ b off sp, x.1 = some ⟨b, off, sp⟩ → b ∉ F ∧ b < w.heap.size
/-- A disk that was made behind w0; L: bytes that are kept beside it. -/
def DkS (w0 w : World) (p : Nat) (s : DSt) (L : Kept) : Prop := ∃ F, Dk w p s F ∧ (∀ q ∈ F, w0.heap.size ≤ q) ∧ Below w0.heap.size w0 w ∧ KeptOk w F L
theorem Dk.lt {w : World} {p : Nat} {s : DSt} {F : List Nat} (h : Dk w p s F) : ∀ q ∈ F, q < w.heap.size := by
  obtain ⟨S, nS, cS, aQ, nQ, cQ, xs, qs, D, hd, rfl⟩ := h
  exact hd.lt
theorem Dk.keep {w w' : World} {p : Nat} {s : DSt} {F G : List Nat} (h : Dk w p s F) (hc : Chg G w w') (hd : Disj F G) : Dk w' p s F := by
  obtain ⟨S, nS, cS, aQ, nQ, cQ, xs, qs, D, h1, rfl⟩ := h
  exact ⟨S, nS, cS, aQ, nQ, cQ, xs, qs, D, h1.keep hc hd, rfl⟩
section
variable {w0 w w1 : World} {p : Nat} {s s' : DSt} {L : Kept} {F F' : List Nat}
theorem KeptOk.later (h : KeptOk w F L) (hb : Below w.heap.size w w1) : KeptOk w1 F L := fun x hx => ⟨(h x hx).1.below hb, fun b off sp hb' => ⟨((h x hx).2 b off sp hb').1, Nat.lt_of_lt_of_le ((h x hx).2 b off sp hb').2 hb.size⟩⟩
theorem KeptOk.chg (h : KeptOk w F L) (hc : Chg F w w1) (hf : Fresh F F' w) : KeptOk w1 F' L := fun x hx => ⟨hc.rdB (h x hx).1 (fun b off sp hb => ((h x hx).2 b off sp hb).1), fun b off sp hb => by
  obtain ⟨h1, h2⟩ := (h x hx).2 b off sp hb
  refine ⟨fun hm => ?_, Nat.lt_of_lt_of_le h2 hc.size⟩
  rcases hf b hm with h' | h'
  · exact h1 h'
  · omega⟩
theorem DkS.below (h : DkS w0 w p s L) : Below w0.heap.size w0 w := let ⟨_, _, _, h, _⟩ := h; h
theorem DkS.kept (h : DkS w0 w p s L) {x : Option Addr × Nat × List UInt8} (hx : x ∈ L) : RdB w x.1 x.2.1 x.2.2 := let ⟨_, _, _, _, h⟩ := h; (h x hx).1
theorem DkS.drop (h : DkS w0 w p s L) : DkS w0 w p s [] := let ⟨F, h1, h2, h3, _⟩ := h; ⟨F, h1, h2, h3, fun x hx => by cases hx⟩
theorem DkS.later (h : DkS w0 w p s L) (hb : Below w.heap.size w w1) : DkS w0 w1 p s L := by
  obtain ⟨F, h1, h2, h3, h4⟩ := h
  exact ⟨F, h1.keep (Chg.of_below hb []) (fun _ _ hm => by cases hm), h2, h3.trans (hb.mono h3.size), h4.later hb⟩
theorem DkS.next (h2 : ∀ q ∈ F, w0.heap.size ≤ q) (h3 : Below w0.heap.size w0 w) (h4 : KeptOk w F L) (hc : Chg F w w1) (h : Dk w1 p s' F') (hf : Fresh F F' w) : DkS w0 w1 p s' L := by
  have hs := h3.size
  refine ⟨F', h, fun q hq => ?_, h3.trans (hc.below (B := w0.heap.size) h2 hs), h4.chg hc hf⟩
  rcases hf q hq with h' | h'
  · exact h2 q h'
  · omega
end

theorem new_s (n : Nat) (w0 w : World) (hb : Below w0.heap.size w0 w) (h0 : 8 ≤ n) (h1 : n ≤ 4096) :
    Calls Try.prog 7 #[.int .i64 n] w fun e w' => ∃ p, e = .returned (.tuple #[.pointer (some ⟨p, 0, none⟩), .int .i64 0]) ∧ DkS w0 w' p (DSt.new n) [] :=
  (new_any n w h0 h1).mono fun e w' ⟨F, he, hd, hb', hF⟩ => ⟨_, he, F, hd, fun q hq => by have := hF q hq; have := hb.size; omega, hb.trans (hb'.mono hb.size), fun x hx => by cases hx⟩
/-- Write of bytes that were made for it. -/
theorem write_s (p at_ : Nat) (s : DSt) (a : Option Addr) (c : Nat) (d : List UInt8) (L : Kept) (w0 w w1 : World) (h : DkS w0 w p s L) (hb : Below w.heap.size w w1) (ho : w1.ownsRow w.heap.size 5 1 (.slice a 64 c) 64 (d.map B8))
    (hat : at_ < s.sec.length) (hw : s.works < 4611686018427387904) (hpn : s.pend.length < 1099511627776) :
    Calls Try.prog 9 #[.pointer (some ⟨p, 0, none⟩), .int .i64 at_, .slice a 64 c] w1 fun e w' => e = .returned (.int .i64 (if s.can then 0 else 9)) ∧ DkS w0 w' p (s.write at_ d) L := by
  obtain ⟨F, h1, h2, h3, h4⟩ := h
  have hlt := h1.lt
  have h1' := h1.keep (Chg.of_below hb []) (fun _ _ hm => by cases hm)
  have h3' := h3.trans (hb.mono h3.size)
  refine (write_any p at_ s F a c d w1 h1' (RdB.of_own ho) (own_slice ho).2.1 (fun w2 hc => RdB.of_own (hc.owns ho (fun q hq hm => by have := ho.lt q hq; have := hlt q hm; omega))) hat hw hpn).mono ?_
  rintro e w' ⟨he, hc, F', hd, hf⟩
  exact ⟨he, DkS.next h2 h3' (h4.later hb) hc hd hf⟩
theorem write_bad_s (p : Nat) (z : Int) (s : DSt) (a : Option Addr) (n c : Nat) (L : Kept) (w0 w : World) (h : DkS w0 w p s L)
    (hz : z < 0 ∨ (s.sec.length : Int) ≤ z ∨ n ≠ 64) (hz1 : -9223372036854775808 ≤ z ∧ z ≤ 9223372036854775807) :
    Calls Try.prog 9 #[.pointer (some ⟨p, 0, none⟩), .int .i64 z, .slice a n c] w fun e w' => e = .returned (.int .i64 1) ∧ w = w' :=
  let ⟨F, h1, _⟩ := h; write_bad p z s F a n c w h1 hz hz1
theorem read_neg_s (p : Nat) (s : DSt) (z : Int) (L : Kept) (w0 w : World) (h : DkS w0 w p s L) (hz : z < 0) :
    Calls Try.prog 14 #[.pointer (some ⟨p, 0, none⟩), .int .i64 z] w fun e w' => e = .returned (.tuple #[.slice none 0 0, .int .i64 1]) ∧ w = w' :=
  let ⟨F, h1, _⟩ := h; read_neg p s F z w h1 hz
theorem flush_s (p : Nat) (s : DSt) (L : Kept) (w0 w : World) (h : DkS w0 w p s L) (hw : s.works < 4611686018427387904) :
    Calls Try.prog 11 #[.pointer (some ⟨p, 0, none⟩)] w fun e w' => e = .returned (.int .i64 (if s.can then 0 else 9)) ∧ DkS w0 w' p s.flush L := by
  obtain ⟨F, h1, h2, h3, h4⟩ := h
  by_cases hc : s.can = true
  · rw [if_pos hc]
    exact (flush_can p s F w h1 hc hw).mono fun e w' ⟨he, hc, F', hd, hf⟩ => ⟨he, DkS.next h2 h3 h4 hc hd hf⟩
  · rw [if_neg hc]
    exact (flush_cannot p s F w h1 (by simpa using hc)).mono fun e w' ⟨he, hc, F', hd, hf⟩ => ⟨he, DkS.next h2 h3 h4 hc hd hf⟩
theorem crash_s (p : Nat) (s : DSt) (aL : Option Addr) (nL cL : Nat) (l : List Int) (L : Kept) (w0 w w1 : World) (h : DkS w0 w p s L) (hb : Below w.heap.size w w1) (hr : RdC w1 aL nL (ints l)) (hl : ∀ z ∈ l, -9223372036854775808 ≤ z ∧ z ≤ 9223372036854775807)
    (hd : 0 < nL → ∀ b off sp, aL = some ⟨b, off, sp⟩ → b < w0.heap.size ∨ w.heap.size ≤ b) :
    Calls Try.prog 12 #[.pointer (some ⟨p, 0, none⟩), .slice aL nL cL] w1 fun e w' => e = .returned (.tuple #[]) ∧ DkS w0 w' p (s.crash l) L := by
  obtain ⟨F, h1, h2, h3, h4⟩ := h
  have hlt := h1.lt
  have h1' := h1.keep (Chg.of_below hb []) (fun _ _ hm => by cases hm)
  have h3' := h3.trans (hb.mono h3.size)
  refine (crash_any p s F aL nL cL l w1 h1' hr hl (fun w2 hc => by
    by_cases h0 : 0 < nL
    · exact hc.rdC hr (fun b off sp hb hm => by have := hlt b hm; have := h2 b hm; have := hd h0 b off sp hb; omega)
    · obtain rfl : nL = 0 := by omega
      have := hr.len
      rw [List.eq_nil_of_length_eq_zero this]
      exact RdC.nil _ _)).mono ?_
  rintro e w' ⟨he, hc, F', hd, hf⟩
  exact ⟨he, DkS.next h2 h3' (h4.later hb) hc hd hf⟩
theorem fuse_s (p : Nat) (s : DSt) (z : Int) (L : Kept) (w0 w : World) (h : DkS w0 w p s L) (hz : z ≤ 9223372036854775807) :
    Calls Try.prog 15 #[.pointer (some ⟨p, 0, none⟩), .int .i64 z] w fun e w' => e = .returned (.tuple #[]) ∧ DkS w0 w' p { s with fuse := max z (-1) } L := by
  obtain ⟨F, h1, h2, h3, h4⟩ := h
  exact (fuse_any p s F z w h1 hz).mono fun e w' ⟨he, hd, hc⟩ => ⟨he, DkS.next h2 h3 h4 hc hd (fun q hq => .inl hq)⟩
theorem read_s (p at_ : Nat) (s : DSt) (L : Kept) (w0 w : World) (h : DkS w0 w p s L) (hat : at_ < s.sec.length) :
    Calls Try.prog 14 #[.pointer (some ⟨p, 0, none⟩), .int .i64 at_] w fun e w' => ∃ a' n c', e = .returned (.tuple #[.slice a' n c', .int .i64 (s.read at_).2]) ∧ RdB w' a' n (s.read at_).1 ∧ DkS w0 w' p s ((a', n, (s.read at_).1) :: L) ∧ Below w.heap.size w w' := by
  obtain ⟨F, h1, h2, h3, h4⟩ := h
  have hlt := h1.lt
  refine (read_any p at_ s F w h1 hat).mono fun e w' ⟨a, n, c, he, hr, _, hb, hat⟩ => ⟨a, n, c, he, hr, ?_, hb⟩
  refine ⟨F, h1.keep (Chg.of_below hb []) (fun _ _ hm => by cases hm), h2, h3.trans (hb.mono h3.size), fun x hx => ?_⟩
  rcases List.mem_cons.1 hx with rfl | hx
  · exact ⟨hr, fun b off sp hb' => ⟨fun hm => by have := hlt b hm; have := hat b off sp hb'; omega, (hat b off sp hb').2⟩⟩
  · exact h4.later hb x hx
theorem pending_s (p : Nat) (s : DSt) (L : Kept) (w0 w : World) (h : DkS w0 w p s L) (hsm : s.pend.length < 1099511627776) :
    Calls Try.prog 18 #[.pointer (some ⟨p, 0, none⟩)] w fun e w' => ∃ a c, e = .returned (.slice a s.pend.length c) ∧ DkS w0 w' p s L := by
  obtain ⟨F, h1, h2, h3, h4⟩ := h
  exact (pending_any p s F w h1 hsm).mono fun e w' ⟨a, c, he, hb⟩ => ⟨a, c, he, DkS.later ⟨F, h1, h2, h3, h4⟩ hb⟩
theorem down_s (p : Nat) (s : DSt) (L : Kept) (w0 w : World) (h : DkS w0 w p s L) :
    Calls Try.prog 16 #[.pointer (some ⟨p, 0, none⟩)] w fun e w' => e = .returned (.bool s.down) ∧ w = w' :=
  let ⟨F, h1, _⟩ := h; down_any p s F w h1
theorem works_s (p : Nat) (s : DSt) (L : Kept) (w0 w : World) (h : DkS w0 w p s L) :
    Calls Try.prog 17 #[.pointer (some ⟨p, 0, none⟩)] w fun e w' => e = .returned (.int .i64 (s.works : Int)) ∧ w = w' :=
  let ⟨F, h1, _⟩ := h; works_any p s F w h1
theorem sectors_s (p : Nat) (s : DSt) (L : Kept) (w0 w : World) (h : DkS w0 w p s L) :
    Calls Try.prog 19 #[.pointer (some ⟨p, 0, none⟩)] w fun e w' => e = .returned (.int .i64 (s.sec.length : Int)) ∧ w = w' :=
  let ⟨F, h1, _⟩ := h; sectors_any p s F w h1

/-- law3.known: chapter 3's examples -/
theorem known3_any (w : World) :
    Calls Try.prog 8 #[] w fun e w' => e = .returned (.bool true) ∧ Below w.heap.size w w' := by
  go_enter Try.func8, Try.ntmps8
  go_wp2_with fail
  refine (new_s 8 w _ (Below.refl _ _) (by omega) (by omega)).mono ?_
  rintro e w1 ⟨p, rfl, h1⟩
  have H1 := hid h1; clear h1
  go_wp2_with fail
  refine (sector_any 5 _).mono ?_
  rintro e w2 ⟨a2, c2, rfl, ho2, hb2⟩
  have HO2 := hid ho2; have HB2 := hid hb2; clear ho2 hb2
  go_wp2_with fail
  refine (write_s p 1 _ a2 c2 _ [] w _ _ H1.out HB2.out HO2.out (by decide) (by decide) (by decide)).mono ?_
  rintro e w3 ⟨he, h3⟩
  generalize handBytes 64 5 = x5 at *
  obtain ⟨s3, hs3⟩ : ∃ s, s = (DSt.new 8).write 1 x5 := ⟨_, rfl⟩
  rw [← hs3] at h3
  rw [show (DSt.new 8).can = true by decide] at he
  obtain rfl := he
  have H3 := hid h3; have HS3 := hid hs3; clear h3 hs3
  go_wp2_with fail
  refine (crash_s p s3 _ _ _ [2] _ w _ _ H3.out ((Below.refl _ _).alloc (Nat.le_refl _) _) (RdC.new _ _ _ _ _ rfl 1 rfl _ rfl) (by simp) (by intro _ b off sp h; cases h; exact .inr (Nat.le_refl _))).mono ?_
  rintro e w4 ⟨rfl, h4⟩
  have HS4 : Hid (s3.crash [2] = { sec := (DSt.new 8).sec.set 1 ([], true), pend := [], fuse := -1, down := false, works := 1 }) := by rw [HS3.out]; exact rfl
  rw [HS4.out] at h4
  have H4 := hid h4; clear h4
  go_wp2_with fail
  refine (read_s p 1 _ _ w _ H4.out (by decide)).mono ?_
  rintro e w5 ⟨a5, n5, c5, rfl, hr5, h5, hb5⟩
  have H5 := hid h5
  clear hr5 h5 hb5
  go_wp2_with fail
  refine (fuse_s p _ 1 _ w _ H5.out (by omega)).mono ?_
  rintro e w6 ⟨rfl, h6⟩
  have H6 := hid h6; clear h6
  go_wp2_with fail
  refine (sector_any 6 _).mono ?_
  rintro e w7 ⟨a7, c7, rfl, ho7, hb7⟩
  have HO7 := hid ho7; have HB7 := hid hb7; clear ho7 hb7
  go_wp2_with fail
  refine (write_s p 1 _ a7 c7 _ _ w _ _ H6.out HB7.out HO7.out (by decide) (by decide) (by decide)).mono ?_
  rintro e w8 ⟨rfl, h8⟩
  have H8 := hid h8; clear h8
  go_wp2_with fail
  refine (flush_s p _ _ w _ H8.out (by decide)).mono ?_
  rintro e w9 ⟨rfl, h9⟩
  have H9 := hid h9; clear h9
  go_wp2_with fail
  refine (down_s p _ _ w _ H9.out).mono ?_
  rintro e w10 ⟨rfl, rfl⟩
  go_wp2_with fail
  go_ret
  exact ⟨rfl, H9.out.below⟩
end Go.Proofs.Ythcjiiknhldgoaa
