/- wal.Open of a disk that holds units. -/
import Derived.Test.YtipkeifpkemcdaaWalU
import Derived.Test.YtipkeifpkemcdaaWal5
namespace Go.Proofs.Ytipkeifpkemcdaa
open Go.RowKit
set_option linter.unusedVariables false
set_option linter.unusedSimpArgs false
set_option maxRecDepth 100000
set_option maxHeartbeats 6400000
/-- A sector holds a head; it holds none. -/
def HeadAt (s : DSt) (i : Nat) (E a u : Nat) : Prop := s.read (i : Int) = (headB E a u, 0) ∧ E < 18446744073709551616 ∧ a ≤ 1 ∧ u ≤ (s.sec.length - 2) / 2
def NoHead (s : DSt) (i : Nat) : Prop := ∀ E a u : Nat, E < 18446744073709551616 → a ≤ 1 → u ≤ (s.sec.length - 2) / 2 → s.read (i : Int) ≠ (headB E a u, 0)
/-- The head that counts ahead of the k-th sector. -/
def Best (s : DSt) (k : Nat) (E a u : Nat) (at_ : Int) : Prop :=
  (at_ = -1 ∧ E = 0 ∧ a = 0 ∧ u = 0 ∧ ∀ i, i < k → NoHead s i) ∨
  (∃ j : Nat, at_ = (j : Int) ∧ j < k ∧ HeadAt s j E a u ∧ (∀ i, i < k → NoHead s i ∨ ∃ E' a' u', HeadAt s i E' a' u' ∧ (i < j → E' < E) ∧ (j < i → E' ≤ E)))
theorem Best.start (s : DSt) : Best s 0 0 0 0 (-1) := .inl ⟨rfl, rfl, rfl, rfl, fun i h => absurd h (Nat.not_lt_zero _)⟩
theorem Best.none {s : DSt} {k E a u : Nat} {at_ : Int} (h : Best s k E a u at_) (hn : NoHead s k) : Best s (k + 1) E a u at_ := by
  rcases h with ⟨h1, h2, h3, h4, h5⟩ | ⟨j, h1, h2, h3, h4⟩
  · refine .inl ⟨h1, h2, h3, h4, fun i hi => ?_⟩
    rcases Nat.lt_or_ge i k with h' | h'
    · exact h5 i h'
    · rw [show i = k by omega]; exact hn
  · refine .inr ⟨j, h1, by omega, h3, fun i hi => ?_⟩
    rcases Nat.lt_or_ge i k with h' | h'
    · exact h4 i h'
    · rw [show i = k by omega]; exact .inl hn
theorem Best.old {s : DSt} {k E a u E' a' u' : Nat} {at_ : Int} (h : Best s k E a u at_) (h0 : 0 ≤ at_) (hn : HeadAt s k E' a' u') (hle : E' ≤ E) : Best s (k + 1) E a u at_ := by
  rcases h with ⟨h1, h2, h3, h4, h5⟩ | ⟨j, h1, h2, h3, h4⟩
  · omega
  · refine .inr ⟨j, h1, by omega, h3, fun i hi => ?_⟩
    rcases Nat.lt_or_ge i k with h' | h'
    · exact h4 i h'
    · rw [show i = k by omega]; exact .inr ⟨E', a', u', hn, fun _ => by omega, fun _ => hle⟩
theorem Best.new {s : DSt} {k E a u E' a' u' : Nat} {at_ : Int} (h : Best s k E a u at_) (hn : HeadAt s k E' a' u') (hgt : at_ < 0 ∨ E < E') (h3 : s.sec.length ≤ 33554432) : Best s (k + 1) E' a' u' (k : Int) := by
  refine .inr ⟨k, rfl, Nat.lt_succ_self _, hn, fun i hi => ?_⟩
  rcases Nat.lt_or_ge i k with h' | h'
  · rcases h with ⟨h1, h2, hz, h4, h5⟩ | ⟨j, h1, h2, hh, h4⟩
    · exact .inl (h5 i h')
    · rcases h4 i h' with h6 | ⟨E2, a2, u2, h6, h7, h8⟩
      · exact .inl h6
      · refine .inr ⟨E2, a2, u2, h6, fun _ => ?_, fun _ => by omega⟩
        have hEE : E < E' := by omega
        rcases Nat.lt_trichotomy i j with h9 | h9 | h9
        · have := h7 h9; omega
        · subst h9
          have h10 := h6.1.symm.trans hh.1
          have p1 := headB_parse E2 a2 u2 h6.2.1 (by have := h6.2.2.1; omega) (by have := h6.2.2.2; omega)
          have p2 := headB_parse E a u hh.2.1 (by have := hh.2.2.1; omega) (by have := hh.2.2.2; omega)
          have h11 : headB E2 a2 u2 = headB E a u := congrArg Prod.fst h10
          rw [h11] at p1
          have : E2 = E := by have h1 := p1.1; have h2 := p2.1; omega
          omega
        · have := h8 h9; omega
  · rw [show i = k by omega]; exact .inr ⟨E', a', u', hn, fun h => absurd h (Nat.lt_irrefl _), fun h => absurd h (Nat.lt_irrefl _)⟩
/-- While the heads are read. -/
structure OpL (s : DSt) (p : Nat) (w : World) (y : Value) (wr : World) : Prop where
  ex : ∃ (k E a u : Nat) (at_ : Int), y = .int .i64 (k : Int) ∧ k ≤ 2 ∧ Best s k E a u at_ ∧ E < 18446744073709551616 ∧ wr.heap[w.heap.size]? = some (.cells (logArr p E (a : Int) (u : Int) at_ false) 118 (0, 0)) ∧ Below w.heap.size w wr
/-- What Open answers. -/
def OpRes (s : DSt) (p E A U : Nat) (AT : Int) (us : List (List UInt8)) (F : List Nat) (w : World) (e : Ending) (w' : World) : Prop := ∃ (pl : Nat) (aU : Option Addr) (nU cU : Nat) (sls : List Sl), e = .returned (.tuple #[.pointer (some ⟨pl, 0, none⟩), .slice aU nU cU, .int .i64 0]) ∧ w'.heap[pl]? = some (.cells (logArr p E (A : Int) (U : Int) AT false) 118 (0, 0)) ∧ UnQ w' (fun q => pl < q ∧ q < w'.heap.size) ⟨aU, nU, cU⟩ sls us ∧ Below w.heap.size w w' ∧ w.heap.size ≤ pl
theorem openAny_any (p E A U : Nat) (AT : Int) (us : List (List UInt8)) (s : DSt) (F : List Nat) (w : World) (h : Dk w p s F) (hdn : s.down = false) (h8 : 8 ≤ s.sec.length) (h3 : s.sec.length ≤ 33554432)
    (hlen : ∀ i, i < 2 → (s.read (i : Nat)).2 = 0 → (s.read (i : Nat)).1.length = 64) (huni : ∀ e a u at_, Best s 2 e a u at_ → e = E ∧ a = A ∧ u = U ∧ at_ = AT) (hA : A ≤ 1) (hU : U ≤ (s.sec.length - 2) / 2) (hsz : sizeAll us = U)
    (hrd : ∀ i : Nat, i < U → s.read ((2 + A * ((s.sec.length - 2) / 2) + i : Nat) : Int) = (chunk (layAll us) i, 0)) :
    Calls Try.prog 51 #[.pointer (some ⟨p, 0, none⟩)] w (OpRes s p E A U AT us F w) := by
  have H := hid h; have HUNI := hid huni; have HRD := hid hrd; have HLEN := hid hlen
  clear h huni hrd hlen
  go_enter Try.func51, Try.ntmps51
  go_wp2_with fail
  refine (down_any p s F _ H.out).mono ?_
  rintro e w1 ⟨rfl, rfl⟩
  rw [hdn]
  go_wp2_with fail
  have hB : Hid (Below w.heap.size w (w.alloc (.cells (logArr p 0 0 0 (-1) false) 118))) := (Below.refl _ _).alloc (Nat.le_refl _) _
  have hL : Hid ((w.alloc (.cells (logArr p 0 0 0 (-1) false) 118)).heap[w.heap.size]? = some (.cells (logArr p 0 0 0 (-1) false) 118 (0, 0))) := block_new _ _
  go_loopw [20] (fun y wr => OpL s p w y wr) (fun y _ => 2 - (intOf y).toNat)
  case atStart => exact ⟨⟨0, 0, 0, 0, -1, rfl, Nat.zero_le _, Best.start s, by decide, hL.out, hB.out⟩⟩
  case round =>
    clear hB hL
    obtain ⟨k, E0, a0, u0, at0, rfl, hk, hbest, hE0, hl, hb⟩ := hrel.ex
    clear hrel
    have HBEST := hid hbest; have HL := hid hl; have HB := hid hb; have HE0 := hid hE0
    clear hbest hl hb hE0
    by_cases hlt : k < 2
    · have hltz : (k : Int) < 2 := by omega
      go_wp2_with fail
      refine (readAny_any p k s F _ (H.out.below HB.out) (by omega) (by omega) (by omega) (HLEN.out k hlt)).mono ?_
      intro e w2 hres
      obtain ⟨E1, a1, u1, ok, rfl, hb2, hok1, hok0⟩ := hres
      dsimp only
      have HL2 := hid ((hb2.block _ (block_lt HL.out)).trans HL.out)
      have HB2 := hid (HB.out.trans (hb2.mono HB.out.size))
      have HOK1 := hid hok1; have HOK0 := hid hok0
      clear hb2 HL HB hok1 hok0
      go_upto_region 10 with (first | (refine wpList_alloc_obj rfl 116 rfl _ hZero ?_) | (refine wpList_store_obj rfl 116 _ _ rfl w2.heap.size rfl (headArr E1 a1 u1) rfl _ _ (block_new w2 _) rfl hSize (headArr_one E1 a1 u1) ?_; intro w3 hb3 hc3 hs3; have HX3 := hid hb3; have HC3 := hid hc3; clear hb3 hc3 hs3))
      have B23 : Hid (Below w2.heap.size w2 w3) := ((Below.refl _ w2).alloc (Nat.le_refl _) _).trans (HC3.out.below (fun k hk => by rw [List.mem_singleton.1 hk]; exact Nat.le_refl _) (by simp))
      have HL3 := hid ((B23.out.block _ (block_lt HL2.out)).trans HL2.out)
      have HB33 := hid (HB2.out.trans (B23.out.mono HB2.out.size))
      have HPX : Hid (w2.heap.size ≠ w.heap.size) := by have := block_lt HL2.out; show _ ≠ _; omega
      clear HC3 HL2 HB2 B23
      generalize w2.heap.size = px at *
      cases ok with
      | false =>
        have HNO : Hid (NoHead s k) := HOK0.out rfl
        clear HOK0 HOK1
        refine wp_region_each 18 [.eq (.bool false), .eq (.bool false), .eq undef, .eq undef, .eq undef, .eq undef, .eq undef, .eq undef, .eq undef, .eq undef, .eq undef, .eq undef, .eq undef, .eq undef, .eq undef, .eq undef, .eq undef, .eq (.bool false)] (by kernel_rfl) (by kernel_rfl) (by kernel_rfl) (by kernel_rfl) ?_ ?_
        · all_goals
            refine each_5 ?_ ?_ ?_ ?_ ?_ (each_5 ?_ ?_ ?_ ?_ ?_ (each_5 ?_ ?_ ?_ ?_ ?_ (each_c ?_ (each_c ?_ (each_c ?_ (each_n))))))
            · intro w1 hg Ar seen
              have s8 := seen.sl 8 (.bool false)
              refine does_plain rfl fun K Q' hK => ?_
              go_simp; exact hK _ _ (Grow.refl _) rfl
            · intro w1 hg Ar seen
              have e0 := seen.de 0 29
              refine does_plain rfl fun K Q' hK => ?_
              go_simp; exact hK _ _ (Grow.refl _) rfl
            · intro w1 hg Ar seen
              have e1 := seen.de 1 30
              exact does_off rfl (by kernel_rfl) e1 ne_ft (Grow.refl _) rfl
            · intro w1 hg Ar seen
              have e1 := seen.de 1 30
              exact does_off rfl (by kernel_rfl) e1 ne_ft (Grow.refl _) rfl
            · intro w1 hg Ar seen
              have e1 := seen.de 1 30
              exact does_off rfl (by kernel_rfl) e1 ne_ft (Grow.refl _) rfl
            · intro w1 hg Ar seen
              have e1 := seen.de 1 30
              exact does_off rfl (by kernel_rfl) e1 ne_ft (Grow.refl _) rfl
            · intro w1 hg Ar seen
              have e1 := seen.de 1 30
              exact does_off rfl (by kernel_rfl) e1 ne_ft (Grow.refl _) rfl
            · intro w1 hg Ar seen
              have e1 := seen.de 1 30
              exact does_off rfl (by kernel_rfl) e1 ne_ft (Grow.refl _) rfl
            · intro w1 hg Ar seen
              have e7 := seen.de 7 36
              exact does_off rfl (by kernel_rfl) e7 (ne_un _) (Grow.refl _) rfl
            · intro w1 hg Ar seen
              have e7 := seen.de 7 36
              exact does_off rfl (by kernel_rfl) e7 (ne_un _) (Grow.refl _) rfl
            · intro w1 hg Ar seen
              have e7 := seen.de 7 36
              exact does_off rfl (by kernel_rfl) e7 (ne_un _) (Grow.refl _) rfl
            · intro w1 hg Ar seen
              have e7 := seen.de 7 36
              exact does_off rfl (by kernel_rfl) e7 (ne_un _) (Grow.refl _) rfl
            · intro w1 hg Ar seen
              have e7 := seen.de 7 36
              exact does_off rfl (by kernel_rfl) e7 (ne_un _) (Grow.refl _) rfl
            · intro w1 hg Ar seen
              have e7 := seen.de 7 36
              exact does_off rfl (by kernel_rfl) e7 (ne_un _) (Grow.refl _) rfl
            · intro w1 hg Ar seen
              have e7 := seen.de 7 36
              exact does_off rfl (by kernel_rfl) e7 (ne_un _) (Grow.refl _) rfl
            · intro w1 hg Ar seen
              have e7 := seen.de 7 36
              exact does_off rfl (by kernel_rfl) e7 (ne_un _) (Grow.refl _) rfl
            · intro w1 hg Ar seen
              have e1 := seen.de 1 30
              exact does_off rfl (by kernel_rfl) e1 ne_ft (Grow.refl _) rfl
            · intro w1 hg Ar seen
              have e1 := seen.de 1 30
              have e16 := seen.de 16 45
              refine does_plain rfl fun K Q' hK => ?_
              go_simp; exact hK _ _ (Grow.refl _) rfl
        intro w1 hg
        refine upon_w' (js := [0, 1, 2, 3, 4, 5, 6, 7, 8, 9, 10, 11, 12, 13, 14, 15, 16, 17]) (by rfl) ?_
        refine upon_e (some 29) (upon_e (some 30) (upon_e (some 31) (upon_e (some 32) (upon_e (some 33) (upon_e (some 34) (upon_e (some 35) (upon_e (some 36) (upon_e (some 37) (upon_e (some 38) (upon_e (some 39) (upon_e (some 40) (upon_e (some 41) (upon_e (some 42) (upon_e (some 43) (upon_e (some 44) (upon_e (some 45) (upon_e (some 46) (upon_n ?_))))))))))))))))))
        go_simp
        have HL4 := hid ((hg.block _ (block_lt HL3.out)).trans HL3.out)
        have HB4 := hid (HB33.out.trans (hg.mono HB33.out.size))
        clear hg HL3 HB33
        go_wp2_with fail
        have HRR : OpL s p w (.int .i64 ((k + 1 : Nat) : Int)) w1 := ⟨k + 1, E0, a0, u0, at0, rfl, by omega, HBEST.out.none HNO.out, HE0.out, HL4.out, HB4.out⟩
        rw [show ((k + 1 : Nat) : Int) = (k : Int) + 1 by omega] at HRR
        go_roundw
        case rel => first | exact HRR | ((repeat apply Exists.intro); exact HRR) | ((repeat apply Exists.intro); exact ⟨HRR, rfl⟩)
        case measure => (simp [intOf] <;> omega)
      | true =>
        obtain ⟨q1, q2, q3, q4, q5, q6⟩ := HOK1.out rfl
        clear HOK0 HOK1
        obtain ⟨a2, rfl⟩ := Int.eq_ofNat_of_zero_le q3
        obtain ⟨u2, rfl⟩ := Int.eq_ofNat_of_zero_le q5
        have HHD : Hid (HeadAt s k E1 a2 u2) := ⟨q1, q2, by omega, by omega⟩
        have HE1 := hid q2
        clear q1 q2 q3 q4 q5 q6
        by_cases hat : at0 < 0
        · have HAT := hid hat
          refine wp_region_each 18 [.eq (.bool true), .eq (.bool true), .eq (.pointer (some ⟨w.heap.size, 0, none⟩)), .eq (.pointer (some ⟨w.heap.size, 0, none⟩)), .eq (.pointer (some ⟨w.heap.size, 4, none⟩)), .eq (.int .i64 at0), .eq (.bool true), .eq (.bool true), .eq undef, .eq undef, .eq undef, .eq undef, .eq undef, .eq undef, .eq undef, .eq undef, .eq (.bool true), .eq (.bool true)] (by kernel_rfl) (by kernel_rfl) (by kernel_rfl) (by kernel_rfl) ?_ ?_
          · all_goals
              refine each_5 ?_ ?_ ?_ ?_ ?_ (each_5 ?_ ?_ ?_ ?_ ?_ (each_5 ?_ ?_ ?_ ?_ ?_ (each_c ?_ (each_c ?_ (each_c ?_ (each_n))))))
              · intro w1 hg Ar seen
                have s8 := seen.sl 8 (.bool true)
                refine does_plain rfl fun K Q' hK => ?_
                go_simp; exact hK _ _ (Grow.refl _) rfl
              · intro w1 hg Ar seen
                have e0 := seen.de 0 29
                refine does_plain rfl fun K Q' hK => ?_
                go_simp; exact hK _ _ (Grow.refl _) rfl
              · intro w1 hg Ar seen
                have e1 := seen.de 1 30
                have s5 := seen.sl 5 (.pointer (some ⟨w.heap.size, 0, none⟩))
                refine does_on rfl (by kernel_rfl) e1 fun K Q' hK => ?_
                clear e1
                go_simp; exact hK _ _ (Grow.refl _) rfl
              · intro w1 hg Ar seen
                have e2 := seen.de 2 31
                have e1 := seen.de 1 30
                refine does_on rfl (by kernel_rfl) e1 fun K Q' hK => ?_
                clear e1
                go_simp; exact hK _ _ (Grow.refl _) rfl
              · intro w1 hg Ar seen
                have e3 := seen.de 3 32
                have e1 := seen.de 1 30
                refine does_on rfl (by kernel_rfl) e1 fun K Q' hK => ?_
                clear e1
                go_simp; exact hK _ _ (Grow.refl _) rfl
              · intro w1 hg Ar seen
                have e4 := seen.de 4 33
                have e1 := seen.de 1 30
                refine does_on rfl (by kernel_rfl) e1 fun K Q' hK => ?_
                clear e1
                have hc : w1.cell? ⟨w.heap.size, 4, none⟩ = some (.int .i64 at0) := cell_of_block (j := 4) ((hg.block _ (block_lt HL3.out)).trans HL3.out) rfl
                go_simp; exact hK _ _ (Grow.refl _) rfl
              · intro w1 hg Ar seen
                have e5 := seen.de 5 34
                have e1 := seen.de 1 30
                refine does_on rfl (by kernel_rfl) e1 fun K Q' hK => ?_
                clear e1
                have hc := HAT.out
                go_simp; exact hK _ _ (Grow.refl _) rfl
              · intro w1 hg Ar seen
                have e6 := seen.de 6 35
                have e1 := seen.de 1 30
                refine does_on rfl (by kernel_rfl) e1 fun K Q' hK => ?_
                clear e1
                go_simp; exact hK _ _ (Grow.refl _) rfl
              · intro w1 hg Ar seen
                have e7 := seen.de 7 36
                exact does_off rfl (by kernel_rfl) e7 ne_tf (Grow.refl _) rfl
              · intro w1 hg Ar seen
                have e7 := seen.de 7 36
                exact does_off rfl (by kernel_rfl) e7 ne_tf (Grow.refl _) rfl
              · intro w1 hg Ar seen
                have e7 := seen.de 7 36
                exact does_off rfl (by kernel_rfl) e7 ne_tf (Grow.refl _) rfl
              · intro w1 hg Ar seen
                have e7 := seen.de 7 36
                exact does_off rfl (by kernel_rfl) e7 ne_tf (Grow.refl _) rfl
              · intro w1 hg Ar seen
                have e7 := seen.de 7 36
                exact does_off rfl (by kernel_rfl) e7 ne_tf (Grow.refl _) rfl
              · intro w1 hg Ar seen
                have e7 := seen.de 7 36
                exact does_off rfl (by kernel_rfl) e7 ne_tf (Grow.refl _) rfl
              · intro w1 hg Ar seen
                have e7 := seen.de 7 36
                exact does_off rfl (by kernel_rfl) e7 ne_tf (Grow.refl _) rfl
              · intro w1 hg Ar seen
                have e7 := seen.de 7 36
                exact does_off rfl (by kernel_rfl) e7 ne_tf (Grow.refl _) rfl
              · intro w1 hg Ar seen
                have e7 := seen.de 7 36
                have e15 := seen.de 15 44
                have e1 := seen.de 1 30
                refine does_on rfl (by kernel_rfl) e1 fun K Q' hK => ?_
                clear e1
                go_simp; exact hK _ _ (Grow.refl _) rfl
              · intro w1 hg Ar seen
                have e1 := seen.de 1 30
                have e16 := seen.de 16 45
                refine does_plain rfl fun K Q' hK => ?_
                go_simp; exact hK _ _ (Grow.refl _) rfl
          intro w1 hg
          refine upon_w' (js := [0, 1, 2, 3, 4, 5, 6, 7, 8, 9, 10, 11, 12, 13, 14, 15, 16, 17]) (by rfl) ?_
          refine upon_e (some 29) (upon_e (some 30) (upon_e (some 31) (upon_e (some 32) (upon_e (some 33) (upon_e (some 34) (upon_e (some 35) (upon_e (some 36) (upon_e (some 37) (upon_e (some 38) (upon_e (some 39) (upon_e (some 40) (upon_e (some 41) (upon_e (some 42) (upon_e (some 43) (upon_e (some 44) (upon_e (some 45) (upon_e (some 46) (upon_n ?_))))))))))))))))))
          go_simp
          have HNEW := hid (HBEST.out.new HHD.out (.inl HAT.out) h3)
          have HL4 := hid ((hg.block _ (block_lt HL3.out)).trans HL3.out)
          have HB4 := hid (HB33.out.trans (hg.mono HB33.out.size))
          have HX4 := hid ((hg.block _ (block_lt HX3.out)).trans HX3.out)
          clear hg HL3 HB33 HX3
          go_wp2_with (first | (refine wpList_load_row rfl 116 _ rfl px rfl _ _ _ _ HX4.out Try.underlying116 rfl hSize ?_) | (refine wpList_store_part rfl 116 _ _ rfl w.heap.size 1 (headArr E1 (a2 : Int) (u2 : Int)) rfl rfl HL4.out (show 1 + 3 ≤ 6 by decide) hSize (headArr_one _ _ _) (logArr p E1 (a2 : Int) (u2 : Int) at0 false) rfl ?_; intro w8 hb8 hc8; have HB8 := hid hb8; have HC8 := hid hc8; have hco : w8.cell? ⟨w.heap.size, 4, none⟩ = some (.int .i64 at0) := cell_of_block (j := 4) HB8.out rfl; have hfz : ∀ j, w8.frozen? ⟨w.heap.size, j, none⟩ = false := (fun j => frozen_of_block HB8.out); clear hb8 hc8))
          have hset : Chg [w.heap.size] w8 (w8.setCell ⟨w.heap.size, 4, none⟩ (.int .i64 (k : Int))) := (Chg.refl _ w8).setCell (.inl (by simp)) _
          have HL9 := hid (block_setCell (j := 4) HB8.out (.int .i64 (k : Int)))
          have HB9 := hid (HB4.out.trans ((HC8.out.trans hset (fun q hq => .inl hq)).below (fun q hq => by rw [List.mem_singleton.1 hq]; exact Nat.le_refl _) HB4.out.size))
          generalize w8.setCell ⟨w.heap.size, 4, none⟩ (.int .i64 (k : Int)) = w9 at *
          have HRR : OpL s p w (.int .i64 ((k + 1 : Nat) : Int)) w9 := ⟨k + 1, E1, a2, u2, (k : Int), rfl, by omega, HNEW.out, HE1.out, HL9.out, HB9.out⟩
          rw [show ((k + 1 : Nat) : Int) = (k : Int) + 1 by omega] at HRR
          clear hset hco hfz HC8
          go_roundw
          case rel => first | exact HRR | ((repeat apply Exists.intro); exact HRR) | ((repeat apply Exists.intro); exact ⟨HRR, rfl⟩)
          case measure => (simp [intOf] <;> omega)
        · have HAT : Hid (¬ at0 < 0) := hat
          by_cases hgt : E0 < E1
          · have HGT : Hid ((E0 : Int) < (E1 : Int)) := by show _ < _; omega
            refine wp_region_each 18 [.eq (.bool true), .eq (.bool true), .eq (.pointer (some ⟨w.heap.size, 0, none⟩)), .eq (.pointer (some ⟨w.heap.size, 0, none⟩)), .eq (.pointer (some ⟨w.heap.size, 4, none⟩)), .eq (.int .i64 at0), .eq (.bool false), .eq (.bool false), .eq (.pointer (some ⟨px, 0, none⟩)), .eq (.int .u64 (E1 : Int)), .eq (.pointer (some ⟨w.heap.size, 0, none⟩)), .eq (.pointer (some ⟨w.heap.size, 0, none⟩)), .eq (.pointer (some ⟨w.heap.size, 1, none⟩)), .eq (.pointer (some ⟨w.heap.size, 1, none⟩)), .eq (.int .u64 (E0 : Int)), .eq (.bool true), .eq (.bool true), .eq (.bool true)] (by kernel_rfl) (by kernel_rfl) (by kernel_rfl) (by kernel_rfl) ?_ ?_
            · all_goals
                refine each_5 ?_ ?_ ?_ ?_ ?_ (each_5 ?_ ?_ ?_ ?_ ?_ (each_5 ?_ ?_ ?_ ?_ ?_ (each_c ?_ (each_c ?_ (each_c ?_ (each_n))))))
                · intro w1 hg Ar seen
                  have s8 := seen.sl 8 (.bool true)
                  refine does_plain rfl fun K Q' hK => ?_
                  go_simp; exact hK _ _ (Grow.refl _) rfl
                · intro w1 hg Ar seen
                  have e0 := seen.de 0 29
                  refine does_plain rfl fun K Q' hK => ?_
                  go_simp; exact hK _ _ (Grow.refl _) rfl
                · intro w1 hg Ar seen
                  have e1 := seen.de 1 30
                  have s5 := seen.sl 5 (.pointer (some ⟨w.heap.size, 0, none⟩))
                  refine does_on rfl (by kernel_rfl) e1 fun K Q' hK => ?_
                  clear e1
                  go_simp; exact hK _ _ (Grow.refl _) rfl
                · intro w1 hg Ar seen
                  have e2 := seen.de 2 31
                  have e1 := seen.de 1 30
                  refine does_on rfl (by kernel_rfl) e1 fun K Q' hK => ?_
                  clear e1
                  go_simp; exact hK _ _ (Grow.refl _) rfl
                · intro w1 hg Ar seen
                  have e3 := seen.de 3 32
                  have e1 := seen.de 1 30
                  refine does_on rfl (by kernel_rfl) e1 fun K Q' hK => ?_
                  clear e1
                  go_simp; exact hK _ _ (Grow.refl _) rfl
                · intro w1 hg Ar seen
                  have e4 := seen.de 4 33
                  have e1 := seen.de 1 30
                  refine does_on rfl (by kernel_rfl) e1 fun K Q' hK => ?_
                  clear e1
                  have hc : w1.cell? ⟨w.heap.size, 4, none⟩ = some (.int .i64 at0) := cell_of_block (j := 4) ((hg.block _ (block_lt HL3.out)).trans HL3.out) rfl
                  go_simp; exact hK _ _ (Grow.refl _) rfl
                · intro w1 hg Ar seen
                  have e5 := seen.de 5 34
                  have e1 := seen.de 1 30
                  refine does_on rfl (by kernel_rfl) e1 fun K Q' hK => ?_
                  clear e1
                  have hc := HAT.out
                  go_simp; exact hK _ _ (Grow.refl _) rfl
                · intro w1 hg Ar seen
                  have e6 := seen.de 6 35
                  have e1 := seen.de 1 30
                  refine does_on rfl (by kernel_rfl) e1 fun K Q' hK => ?_
                  clear e1
                  go_simp; exact hK _ _ (Grow.refl _) rfl
                · intro w1 hg Ar seen
                  have e7 := seen.de 7 36
                  have s7 := seen.sl 7 (.pointer (some ⟨px, 0, none⟩))
                  refine does_on rfl (by kernel_rfl) e7 fun K Q' hK => ?_
                  clear e7
                  go_simp; exact hK _ _ (Grow.refl _) rfl
                · intro w1 hg Ar seen
                  have e8 := seen.de 8 37
                  have e7 := seen.de 7 36
                  refine does_on rfl (by kernel_rfl) e7 fun K Q' hK => ?_
                  clear e7
                  have hc : w1.cell? ⟨px, 0, none⟩ = some (.int .u64 (E1 : Int)) := cell_of_block (j := 0) ((hg.block _ (block_lt HX3.out)).trans HX3.out) rfl
                  go_simp; exact hK _ _ (Grow.refl _) rfl
                · intro w1 hg Ar seen
                  have e7 := seen.de 7 36
                  have s5 := seen.sl 5 (.pointer (some ⟨w.heap.size, 0, none⟩))
                  refine does_on rfl (by kernel_rfl) e7 fun K Q' hK => ?_
                  clear e7
                  go_simp; exact hK _ _ (Grow.refl _) rfl
                · intro w1 hg Ar seen
                  have e10 := seen.de 10 39
                  have e7 := seen.de 7 36
                  refine does_on rfl (by kernel_rfl) e7 fun K Q' hK => ?_
                  clear e7
                  go_simp; exact hK _ _ (Grow.refl _) rfl
                · intro w1 hg Ar seen
                  have e11 := seen.de 11 40
                  have e7 := seen.de 7 36
                  refine does_on rfl (by kernel_rfl) e7 fun K Q' hK => ?_
                  clear e7
                  go_simp; exact hK _ _ (Grow.refl _) rfl
                · intro w1 hg Ar seen
                  have e12 := seen.de 12 41
                  have e7 := seen.de 7 36
                  refine does_on rfl (by kernel_rfl) e7 fun K Q' hK => ?_
                  clear e7
                  go_simp; exact hK _ _ (Grow.refl _) rfl
                · intro w1 hg Ar seen
                  have e13 := seen.de 13 42
                  have e7 := seen.de 7 36
                  refine does_on rfl (by kernel_rfl) e7 fun K Q' hK => ?_
                  clear e7
                  have hc : w1.cell? ⟨w.heap.size, 1, none⟩ = some (.int .u64 (E0 : Int)) := cell_of_block (j := 1) ((hg.block _ (block_lt HL3.out)).trans HL3.out) rfl
                  go_simp; exact hK _ _ (Grow.refl _) rfl
                · intro w1 hg Ar seen
                  have e9 := seen.de 9 38
                  have e14 := seen.de 14 43
                  have e7 := seen.de 7 36
                  refine does_on rfl (by kernel_rfl) e7 fun K Q' hK => ?_
                  clear e7
                  have hc := HGT.out
                  go_simp; exact hK _ _ (Grow.refl _) rfl
                · intro w1 hg Ar seen
                  have e7 := seen.de 7 36
                  have e15 := seen.de 15 44
                  have e1 := seen.de 1 30
                  refine does_on rfl (by kernel_rfl) e1 fun K Q' hK => ?_
                  clear e1
                  go_simp; exact hK _ _ (Grow.refl _) rfl
                · intro w1 hg Ar seen
                  have e1 := seen.de 1 30
                  have e16 := seen.de 16 45
                  refine does_plain rfl fun K Q' hK => ?_
                  go_simp; exact hK _ _ (Grow.refl _) rfl
            intro w1 hg
            refine upon_w' (js := [0, 1, 2, 3, 4, 5, 6, 7, 8, 9, 10, 11, 12, 13, 14, 15, 16, 17]) (by rfl) ?_
            refine upon_e (some 29) (upon_e (some 30) (upon_e (some 31) (upon_e (some 32) (upon_e (some 33) (upon_e (some 34) (upon_e (some 35) (upon_e (some 36) (upon_e (some 37) (upon_e (some 38) (upon_e (some 39) (upon_e (some 40) (upon_e (some 41) (upon_e (some 42) (upon_e (some 43) (upon_e (some 44) (upon_e (some 45) (upon_e (some 46) (upon_n ?_))))))))))))))))))
            go_simp
            have HNEW := hid (HBEST.out.new HHD.out (.inr hgt) h3)
            have HL4 := hid ((hg.block _ (block_lt HL3.out)).trans HL3.out)
            have HB4 := hid (HB33.out.trans (hg.mono HB33.out.size))
            have HX4 := hid ((hg.block _ (block_lt HX3.out)).trans HX3.out)
            clear hg HL3 HB33 HX3
            go_wp2_with (first | (refine wpList_load_row rfl 116 _ rfl px rfl _ _ _ _ HX4.out Try.underlying116 rfl hSize ?_) | (refine wpList_store_part rfl 116 _ _ rfl w.heap.size 1 (headArr E1 (a2 : Int) (u2 : Int)) rfl rfl HL4.out (show 1 + 3 ≤ 6 by decide) hSize (headArr_one _ _ _) (logArr p E1 (a2 : Int) (u2 : Int) at0 false) rfl ?_; intro w8 hb8 hc8; have HB8 := hid hb8; have HC8 := hid hc8; have hco : w8.cell? ⟨w.heap.size, 4, none⟩ = some (.int .i64 at0) := cell_of_block (j := 4) HB8.out rfl; have hfz : ∀ j, w8.frozen? ⟨w.heap.size, j, none⟩ = false := (fun j => frozen_of_block HB8.out); clear hb8 hc8))
            have hset : Chg [w.heap.size] w8 (w8.setCell ⟨w.heap.size, 4, none⟩ (.int .i64 (k : Int))) := (Chg.refl _ w8).setCell (.inl (by simp)) _
            have HL9 := hid (block_setCell (j := 4) HB8.out (.int .i64 (k : Int)))
            have HB9 := hid (HB4.out.trans ((HC8.out.trans hset (fun q hq => .inl hq)).below (fun q hq => by rw [List.mem_singleton.1 hq]; exact Nat.le_refl _) HB4.out.size))
            generalize w8.setCell ⟨w.heap.size, 4, none⟩ (.int .i64 (k : Int)) = w9 at *
            have HRR : OpL s p w (.int .i64 ((k + 1 : Nat) : Int)) w9 := ⟨k + 1, E1, a2, u2, (k : Int), rfl, by omega, HNEW.out, HE1.out, HL9.out, HB9.out⟩
            rw [show ((k + 1 : Nat) : Int) = (k : Int) + 1 by omega] at HRR
            clear hset hco hfz HC8
            go_roundw
            case rel => first | exact HRR | ((repeat apply Exists.intro); exact HRR) | ((repeat apply Exists.intro); exact ⟨HRR, rfl⟩)
            case measure => (simp [intOf] <;> omega)
          · have HGT : Hid (¬ (E0 : Int) < (E1 : Int)) := by show ¬ _ < _; omega
            refine wp_region_each 18 [.eq (.bool true), .eq (.bool true), .eq (.pointer (some ⟨w.heap.size, 0, none⟩)), .eq (.pointer (some ⟨w.heap.size, 0, none⟩)), .eq (.pointer (some ⟨w.heap.size, 4, none⟩)), .eq (.int .i64 at0), .eq (.bool false), .eq (.bool false), .eq (.pointer (some ⟨px, 0, none⟩)), .eq (.int .u64 (E1 : Int)), .eq (.pointer (some ⟨w.heap.size, 0, none⟩)), .eq (.pointer (some ⟨w.heap.size, 0, none⟩)), .eq (.pointer (some ⟨w.heap.size, 1, none⟩)), .eq (.pointer (some ⟨w.heap.size, 1, none⟩)), .eq (.int .u64 (E0 : Int)), .eq (.bool false), .eq (.bool false), .eq (.bool false)] (by kernel_rfl) (by kernel_rfl) (by kernel_rfl) (by kernel_rfl) ?_ ?_
            · all_goals
                refine each_5 ?_ ?_ ?_ ?_ ?_ (each_5 ?_ ?_ ?_ ?_ ?_ (each_5 ?_ ?_ ?_ ?_ ?_ (each_c ?_ (each_c ?_ (each_c ?_ (each_n))))))
                · intro w1 hg Ar seen
                  have s8 := seen.sl 8 (.bool true)
                  refine does_plain rfl fun K Q' hK => ?_
                  go_simp; exact hK _ _ (Grow.refl _) rfl
                · intro w1 hg Ar seen
                  have e0 := seen.de 0 29
                  refine does_plain rfl fun K Q' hK => ?_
                  go_simp; exact hK _ _ (Grow.refl _) rfl
                · intro w1 hg Ar seen
                  have e1 := seen.de 1 30
                  have s5 := seen.sl 5 (.pointer (some ⟨w.heap.size, 0, none⟩))
                  refine does_on rfl (by kernel_rfl) e1 fun K Q' hK => ?_
                  clear e1
                  go_simp; exact hK _ _ (Grow.refl _) rfl
                · intro w1 hg Ar seen
                  have e2 := seen.de 2 31
                  have e1 := seen.de 1 30
                  refine does_on rfl (by kernel_rfl) e1 fun K Q' hK => ?_
                  clear e1
                  go_simp; exact hK _ _ (Grow.refl _) rfl
                · intro w1 hg Ar seen
                  have e3 := seen.de 3 32
                  have e1 := seen.de 1 30
                  refine does_on rfl (by kernel_rfl) e1 fun K Q' hK => ?_
                  clear e1
                  go_simp; exact hK _ _ (Grow.refl _) rfl
                · intro w1 hg Ar seen
                  have e4 := seen.de 4 33
                  have e1 := seen.de 1 30
                  refine does_on rfl (by kernel_rfl) e1 fun K Q' hK => ?_
                  clear e1
                  have hc : w1.cell? ⟨w.heap.size, 4, none⟩ = some (.int .i64 at0) := cell_of_block (j := 4) ((hg.block _ (block_lt HL3.out)).trans HL3.out) rfl
                  go_simp; exact hK _ _ (Grow.refl _) rfl
                · intro w1 hg Ar seen
                  have e5 := seen.de 5 34
                  have e1 := seen.de 1 30
                  refine does_on rfl (by kernel_rfl) e1 fun K Q' hK => ?_
                  clear e1
                  have hc := HAT.out
                  go_simp; exact hK _ _ (Grow.refl _) rfl
                · intro w1 hg Ar seen
                  have e6 := seen.de 6 35
                  have e1 := seen.de 1 30
                  refine does_on rfl (by kernel_rfl) e1 fun K Q' hK => ?_
                  clear e1
                  go_simp; exact hK _ _ (Grow.refl _) rfl
                · intro w1 hg Ar seen
                  have e7 := seen.de 7 36
                  have s7 := seen.sl 7 (.pointer (some ⟨px, 0, none⟩))
                  refine does_on rfl (by kernel_rfl) e7 fun K Q' hK => ?_
                  clear e7
                  go_simp; exact hK _ _ (Grow.refl _) rfl
                · intro w1 hg Ar seen
                  have e8 := seen.de 8 37
                  have e7 := seen.de 7 36
                  refine does_on rfl (by kernel_rfl) e7 fun K Q' hK => ?_
                  clear e7
                  have hc : w1.cell? ⟨px, 0, none⟩ = some (.int .u64 (E1 : Int)) := cell_of_block (j := 0) ((hg.block _ (block_lt HX3.out)).trans HX3.out) rfl
                  go_simp; exact hK _ _ (Grow.refl _) rfl
                · intro w1 hg Ar seen
                  have e7 := seen.de 7 36
                  have s5 := seen.sl 5 (.pointer (some ⟨w.heap.size, 0, none⟩))
                  refine does_on rfl (by kernel_rfl) e7 fun K Q' hK => ?_
                  clear e7
                  go_simp; exact hK _ _ (Grow.refl _) rfl
                · intro w1 hg Ar seen
                  have e10 := seen.de 10 39
                  have e7 := seen.de 7 36
                  refine does_on rfl (by kernel_rfl) e7 fun K Q' hK => ?_
                  clear e7
                  go_simp; exact hK _ _ (Grow.refl _) rfl
                · intro w1 hg Ar seen
                  have e11 := seen.de 11 40
                  have e7 := seen.de 7 36
                  refine does_on rfl (by kernel_rfl) e7 fun K Q' hK => ?_
                  clear e7
                  go_simp; exact hK _ _ (Grow.refl _) rfl
                · intro w1 hg Ar seen
                  have e12 := seen.de 12 41
                  have e7 := seen.de 7 36
                  refine does_on rfl (by kernel_rfl) e7 fun K Q' hK => ?_
                  clear e7
                  go_simp; exact hK _ _ (Grow.refl _) rfl
                · intro w1 hg Ar seen
                  have e13 := seen.de 13 42
                  have e7 := seen.de 7 36
                  refine does_on rfl (by kernel_rfl) e7 fun K Q' hK => ?_
                  clear e7
                  have hc : w1.cell? ⟨w.heap.size, 1, none⟩ = some (.int .u64 (E0 : Int)) := cell_of_block (j := 1) ((hg.block _ (block_lt HL3.out)).trans HL3.out) rfl
                  go_simp; exact hK _ _ (Grow.refl _) rfl
                · intro w1 hg Ar seen
                  have e9 := seen.de 9 38
                  have e14 := seen.de 14 43
                  have e7 := seen.de 7 36
                  refine does_on rfl (by kernel_rfl) e7 fun K Q' hK => ?_
                  clear e7
                  have hc := HGT.out
                  go_simp; exact hK _ _ (Grow.refl _) rfl
                · intro w1 hg Ar seen
                  have e7 := seen.de 7 36
                  have e15 := seen.de 15 44
                  have e1 := seen.de 1 30
                  refine does_on rfl (by kernel_rfl) e1 fun K Q' hK => ?_
                  clear e1
                  go_simp; exact hK _ _ (Grow.refl _) rfl
                · intro w1 hg Ar seen
                  have e1 := seen.de 1 30
                  have e16 := seen.de 16 45
                  refine does_plain rfl fun K Q' hK => ?_
                  go_simp; exact hK _ _ (Grow.refl _) rfl
            intro w1 hg
            refine upon_w' (js := [0, 1, 2, 3, 4, 5, 6, 7, 8, 9, 10, 11, 12, 13, 14, 15, 16, 17]) (by rfl) ?_
            refine upon_e (some 29) (upon_e (some 30) (upon_e (some 31) (upon_e (some 32) (upon_e (some 33) (upon_e (some 34) (upon_e (some 35) (upon_e (some 36) (upon_e (some 37) (upon_e (some 38) (upon_e (some 39) (upon_e (some 40) (upon_e (some 41) (upon_e (some 42) (upon_e (some 43) (upon_e (some 44) (upon_e (some 45) (upon_e (some 46) (upon_n ?_))))))))))))))))))
            go_simp
            have HNO := hid (HBEST.out.old (by omega) HHD.out (by omega))
            have HL4 := hid ((hg.block _ (block_lt HL3.out)).trans HL3.out)
            have HB4 := hid (HB33.out.trans (hg.mono HB33.out.size))
            clear hg HL3 HB33
            go_wp2_with fail
            have HRR : OpL s p w (.int .i64 ((k + 1 : Nat) : Int)) w1 := ⟨k + 1, E0, a0, u0, at0, rfl, by omega, HNO.out, HE0.out, HL4.out, HB4.out⟩
            rw [show ((k + 1 : Nat) : Int) = (k : Int) + 1 by omega] at HRR
            go_roundw
            case rel => first | exact HRR | ((repeat apply Exists.intro); exact HRR) | ((repeat apply Exists.intro); exact ⟨HRR, rfl⟩)
            case measure => (simp [intOf] <;> omega)
    · obtain rfl : k = 2 := by omega
      obtain ⟨rfl, rfl, rfl, rfl⟩ := HUNI.out _ _ _ _ HBEST.out
      go_wp2_with fail
      refine (unitsAny_any w.heap.size p E0 a0 u0 at0 us s F _ HL.out (H.out.below HB.out) (by omega) h3 hA hU hsz HRD.out).mono ?_
      intro e w2 hres
      obtain ⟨aU, nU, cU, sls, rfl, hun, hb2⟩ := hres
      dsimp only
      have HUN := hid (hun.wide (P' := fun q => w.heap.size < q ∧ q < w2.heap.size) (fun q hq => ⟨Nat.lt_of_lt_of_le (block_lt HL.out) hq.1, hq.2⟩))
      have HL2 := hid ((hb2.block _ (block_lt HL.out)).trans HL.out)
      have HB2 := hid (HB.out.trans (hb2.mono HB.out.size))
      clear hun hb2 HL HB
      go_wp2_with fail
      refine bodyPost_ret (results_tmp3 rfl _ _ _) rfl ?_
      exact ⟨w.heap.size, aU, nU, cU, sls, rfl, HL2.out, HUN.out, HB2.out, Nat.le_refl _⟩
end Go.Proofs.Ytipkeifpkemcdaa
