/- DiskKnown. -/
import Derived.Test.YthcjiiknhldgoaaLaw3
import Derived.Test.YthcjiiknhldgoaaRegion
namespace Go.Proofs.Ythcjiiknhldgoaa
open Go.RowKit
set_option linter.unusedVariables false
set_option linter.unusedSimpArgs false
set_option maxRecDepth 100000
set_option maxHeartbeats 20000000

theorem str3_of {P : Program} (src dst e : TypeId) (hs : P.underlying src = some (.slice e)) (he : P.underlying e = some (.int .u8)) (hd : P.underlying dst = some .string) {w : World} {a : Option Addr} {n : Nat} {l : List UInt8} (h : RdB w a n l) (c : Nat) :
    (convert src dst (.slice a n c)).run P w = .ok (.string ⟨l.toArray⟩) w := run_bytes_str h c src dst e hs he hd
/-- Some bytes of a sector. -/
def sSec (x : List UInt8) : St Grow := ⟨fun v w => ∃ b d, v = .slice b 64 d ∧ RdB w b 64 x, fun v w w' h hg => let ⟨b, d, e, hr⟩ := h; ⟨b, d, e, hr.below hg⟩⟩
def sLen (n : Nat) : St Grow := ⟨fun v w => ∃ b d, v = .slice b n d, fun v w w' h hg => h⟩
theorem w17_of {w w' : World} (h : Grow w w') : Below w.heap.size w w' := h
theorem diskKnown_walk (w : World) :
    Calls Try.prog 6 #[] w fun e w' => e = .returned (.bool true) ∧ Below w.heap.size w w' := by
  go_enter Try.func6, Try.ntmps6
  go_wp2_with fail
  refine (new_bad 7 _ (by omega)).mono ?_
  rintro e w1 ⟨rfl, rfl⟩
  go_wp2_with fail
  refine (new_bad 4097 _ (by omega)).mono ?_
  rintro e w1 ⟨rfl, rfl⟩
  go_wp2_with fail
  refine (new_s 8 w _ (Below.refl _ _) (by omega) (by omega)).mono ?_
  rintro e w1 ⟨p, rfl, h1⟩
  have H1 := hid h1; clear h1
  go_wp2_with fail
  refine (known3_any _).mono ?_
  rintro e w2 ⟨rfl, hb2⟩
  have H2 := hid (H1.out.later hb2); clear hb2
  go_wp2_with fail
  refine (sector_any 1 _).mono ?_
  rintro e w3 ⟨a3, c3, rfl, ho3, hb3⟩
  have H3 := hid (H2.out.later hb3)
  clear ho3 hb3
  go_wp2_with fail
  refine (write_bad_s p 8 _ a3 64 c3 _ w _ H3.out (by right; left; decide) (by omega)).mono ?_
  rintro e w4 ⟨rfl, rfl⟩
  go_wp2_with fail
  refine (sector_any 1 _).mono ?_
  rintro e w4 ⟨a4, c4, rfl, ho4, hb4⟩
  have H4 := hid (H3.out.later hb4)
  have hc4 := (own_slice ho4).1
  obtain ⟨a4', hsl⟩ : ∃ a', ∀ w, (Instr.slice 30 (.slice a4 64 c4) (some (.int .i64 1)) none none).run Try.prog w = .ok (.slice a' 63 (c4 - 1)) w := ⟨_, fun w => run_slice_back (P := Try.prog) 30 5 1 Try.underlying30 (fun w => by kernel_rfl) a4 64 c4 1 (by omega) w⟩
  clear ho4 hb4
  go_wp2_with fail
  refine (write_bad_s p 0 _ a4' 63 (c4 - 1) _ w _ H4.out (by right; right; decide) (by omega)).mono ?_
  rintro e w5 ⟨rfl, rfl⟩
  go_wp2_with fail
  refine (sector_any 1 _).mono ?_
  rintro e w6 ⟨a6, c6, rfl, ho6, hb6⟩
  obtain ⟨x1, hx1⟩ : ∃ x, x = handBytes 64 1 := ⟨_, rfl⟩
  rw [← hx1] at ho6
  have HO6 := hid ho6; have HB6 := hid hb6; have HX1 := hid hx1; clear ho6 hb6 hx1
  go_wp2_with fail
  refine (write_s p 3 _ a6 c6 _ _ w _ _ H4.out HB6.out HO6.out (by decide) (by decide) (by decide)).mono ?_
  rintro e w7 ⟨rfl, h7⟩
  have h7' : DkS w w7 p { sec := (DSt.new 8).sec, pend := [(3, x1)], fuse := -1, down := false, works := 1 } [] := h7
  have H7 := hid h7'; clear h7 h7'
  go_wp2_with fail
  refine (sector_any 2 _).mono ?_
  rintro e w8 ⟨a8, c8, rfl, ho8, hb8⟩
  obtain ⟨x2, hx2⟩ : ∃ x, x = handBytes 64 2 := ⟨_, rfl⟩
  rw [← hx2] at ho8
  have HO8 := hid ho8; have HB8 := hid hb8; have HX2 := hid hx2; clear ho8 hb8 hx2
  go_wp2_with fail
  refine (write_s p 3 _ a8 c8 _ _ w _ _ H7.out HB8.out HO8.out (by simp [DSt.new]) (by simp) (by simp)).mono ?_
  rintro e w9 ⟨rfl, h9⟩
  have h9' : DkS w w9 p { sec := (DSt.new 8).sec, pend := [(3, x1), (3, x2)], fuse := -1, down := false, works := 2 } [] := h9
  have H9 := hid h9'; clear h9 h9'
  go_wp2_with fail
  refine (read_s p 3 _ _ w _ H9.out (by simp [DSt.new])).mono ?_
  rintro e w10 ⟨a10, n10, c10, rfl, hr10, h10, hb10⟩
  rw [show DSt.read { sec := (DSt.new 8).sec, pend := [(3, x1), (3, x2)], fuse := -1, down := false, works := 2 } ((3 : Nat) : Int) = (x2, 0) by rfl] at h10 ⊢
  have H10 := hid h10
  clear hr10 h10 hb10
  go_wp2_with fail
  refine (pending_s p _ _ w _ H10.out (by simp)).mono ?_
  rintro e w11 ⟨a11, c11, rfl, h11⟩
  have H11 := hid h11; clear h11
  go_wp2_with fail
  refine (crash_s p _ _ _ _ [0] _ w _ _ H11.out ((Below.refl _ _).alloc (Nat.le_refl _) _) (RdC.new _ _ _ _ _ rfl 1 rfl _ rfl) (by simp) (by intro _ b off sp h; cases h; exact .inr (Nat.le_refl _))).mono ?_
  rintro e w12 ⟨rfl, h12⟩
  have h12' : DkS w w12 p { sec := (DSt.new 8).sec.set 3 (x1, false), pend := [], fuse := -1, down := false, works := 2 } [(a10, n10, x2)] := h12
  have H12 := hid h12'; clear h12 h12'
  go_wp2_with fail
  refine (read_s p 3 _ _ w _ H12.out (by simp [DSt.new])).mono ?_
  rintro e w13 ⟨a13, n13, c13, rfl, hr13, h13, hb13⟩
  rw [show DSt.read { sec := (DSt.new 8).sec.set 3 (x1, false), pend := [], fuse := -1, down := false, works := 2 } ((3 : Nat) : Int) = (x1, 0) by rfl] at h13 ⊢
  have H13 := hid h13
  clear hr13 h13 hb13
  go_wp2_with fail
  refine (sector_any 4 _).mono ?_
  rintro e w14 ⟨a14, c14, rfl, ho14, hb14⟩
  obtain ⟨x4, hx4⟩ : ∃ x, x = handBytes 64 4 := ⟨_, rfl⟩
  rw [← hx4] at ho14
  have HO14 := hid ho14; have HB14 := hid hb14; have HX4 := hid hx4; clear ho14 hb14 hx4
  go_wp2_with fail
  refine (write_s p 3 _ a14 c14 _ _ w _ _ H13.out HB14.out HO14.out (by simp [DSt.new]) (by simp) (by simp)).mono ?_
  rintro e w15 ⟨rfl, h15⟩
  have h15' : DkS w w15 p { sec := (DSt.new 8).sec.set 3 (x1, false), pend := [(3, x4)], fuse := -1, down := false, works := 3 } [(a13, n13, x1), (a10, n10, x2)] := h15
  have H15 := hid h15'; clear h15 h15'
  go_wp2_with fail
  refine (flush_s p _ _ w _ H15.out (by simp)).mono ?_
  rintro e w16 ⟨rfl, h16⟩
  have h16' : DkS w w16 p { sec := ((DSt.new 8).sec.set 3 (x1, false)).set 3 (x4, false), pend := [], fuse := -1, down := false, works := 4 } [(a13, n13, x1), (a10, n10, x2)] := h16
  have H16 := hid h16'; clear h16 h16'
  go_wp2_with fail
  refine (read_s p 3 _ _ w _ H16.out (by simp [DSt.new])).mono ?_
  rintro e w17 ⟨a17, n17, c17, rfl, hr17, h17, hb17⟩
  rw [show DSt.read { sec := ((DSt.new 8).sec.set 3 (x1, false)).set 3 (x4, false), pend := [], fuse := -1, down := false, works := 4 } ((3 : Nat) : Int) = (x4, 0) by rfl] at h17 ⊢
  have H17 := hid h17
  clear hr17 h17 hb17
  go_wp2_with fail
  refine (read_neg_s p _ (-1) _ w _ H17.out (by omega)).mono ?_
  rintro e w18 ⟨rfl, rfl⟩
  go_wp2_with fail
  obtain ⟨L, hL⟩ : ∃ L : Kept, L = [(a17, n17, x4), (a13, n13, x1), (a10, n10, x2)] := ⟨_, rfl⟩
  have h17 := H17.out
  rw [← hL] at h17
  have m10 : (a10, n10, x2) ∈ L := by rw [hL]; simp
  have m13 : (a13, n13, x1) ∈ L := by rw [hL]; simp
  have m17 : (a17, n17, x4) ∈ L := by rw [hL]; simp
  have M10 := hid m10; have M13 := hid m13; have M17 := hid m17
  clear hL m10 m13 m17
  generalize ({ sec := ((DSt.new 8).sec.set 3 (x1, false)).set 3 (x4, false), pend := [], fuse := -1, down := false, works := 4 } : DSt) = S4, hS4 : ({ sec := ((DSt.new 8).sec.set 3 (x1, false)).set 3 (x4, false), pend := [], fuse := -1, down := false, works := 4 } : DSt) = S4 at h17
  have q1 : S4.works = 4 := by rw [← hS4]
  have q2 : S4.sec.length = 8 := by rw [← hS4]; simp [DSt.new]
  have q3 : S4.pend.length = 0 := by rw [← hS4]; rfl
  have Q1 := hid q1; have Q2 := hid q2; have Q3 := hid q3
  have K17 := hid h17
  clear h17 hS4 q1 q2 q3 H1 H2 H3 H4 H7 H9 H10 H11 H12 H13 H15 H16 H17 HO6 HB6 HO8 HB8 HO14 HB14 hsl hc4
  refine wp_region_each 63 [.eq (.int .i64 1), .eq (.bool true), .eq (.bool true), .eq (.int .i64 1), .eq (.bool true), .eq (.bool true), .eq (.bool true), .eq (.int .i64 1), .eq (.bool true), .eq (.bool true), .eq (.bool true), .eq (.int .i64 1), .eq (.bool true), .eq (.bool true), .eq (.bool true), .eq (.slice a10 n10 c10), .eq (.string ⟨x2.toArray⟩), sSec x2, .eq (.string ⟨x2.toArray⟩), .eq (.bool true), .eq (.bool true), .eq (.bool true), .eq (.int .i64 2), .eq (.bool true), .eq (.bool true), .eq (.bool true), .eq (.slice a13 n13 c13), .eq (.string ⟨x1.toArray⟩), sSec x1, .eq (.string ⟨x1.toArray⟩), .eq (.bool true), .eq (.bool true), .eq (.bool true), .eq (.int .i64 0), .eq (.bool true), .eq (.bool true), .eq (.bool true), .eq (.slice a17 n17 c17), .eq (.string ⟨x4.toArray⟩), sSec x4, .eq (.string ⟨x4.toArray⟩), .eq (.bool true), .eq (.bool true), .eq (.bool true), .eq (.int .i64 1), .eq (.bool true), .eq (.bool true), .eq (.bool true), .eq (.pointer (some ⟨p, 0, none⟩)), .eq (.int .i64 4), .eq (.bool true), .eq (.bool true), .eq (.bool true), .eq (.pointer (some ⟨p, 0, none⟩)), .eq (.int .i64 8), .eq (.bool true), .eq (.bool true), .eq (.bool true), .eq (.pointer (some ⟨p, 0, none⟩)), sLen 0, .eq (.int .i64 0), .eq (.bool true), .eq (.bool true)] (by kernel_rfl) (by kernel_rfl) (by kernel_rfl) (by kernel_rfl) ?_ ?_
  · refine each_c (o' := _) ?_ (each_c (o' := _) ?_ (each_c (o' := _) ?_ (each_c (o' := _) ?_ (each_c (o' := _) ?_ (each_c (o' := _) ?_ (each_c (o' := _) ?_ (each_c (o' := _) ?_ (each_c (o' := _) ?_ (each_c (o' := _) ?_ (each_c (o' := _) ?_ (each_c (o' := _) ?_ (each_c (o' := _) ?_ (each_c (o' := _) ?_ (each_c (o' := _) ?_ (each_c (o' := _) ?_ (each_c (o' := _) ?_ (each_c (o' := _) ?_ (each_c (o' := _) ?_ (each_c (o' := _) ?_ (each_c (o' := _) ?_ (each_c (o' := _) ?_ (each_c (o' := _) ?_ (each_c (o' := _) ?_ (each_c (o' := _) ?_ (each_c (o' := _) ?_ (each_c (o' := _) ?_ (each_c (o' := _) ?_ (each_c (o' := _) ?_ (each_c (o' := _) ?_ (each_c (o' := _) ?_ (each_c (o' := _) ?_ (each_c (o' := _) ?_ (each_c (o' := _) ?_ (each_c (o' := _) ?_ (each_c (o' := _) ?_ (each_c (o' := _) ?_ (each_c (o' := _) ?_ (each_c (o' := _) ?_ (each_c (o' := _) ?_ (each_c (o' := _) ?_ (each_c (o' := _) ?_ (each_c (o' := _) ?_ (each_c (o' := _) ?_ (each_c (o' := _) ?_ (each_c (o' := _) ?_ (each_c (o' := _) ?_ (each_c (o' := _) ?_ (each_c (o' := _) ?_ (each_c (o' := _) ?_ (each_c (o' := _) ?_ (each_c (o' := _) ?_ (each_c (o' := _) ?_ (each_c (o' := _) ?_ (each_c (o' := _) ?_ (each_c (o' := _) ?_ (each_c (o' := _) ?_ (each_c (o' := _) ?_ (each_c (o' := _) ?_ (each_c (o' := _) ?_ (each_c (o' := _) ?_ (each_c (o' := _) ?_ (each_c (o' := _) ?_ (each_n)))))))))))))))))))))))))))))))))))))))))))))))))))))))))))))))
    -- 0: move t2
    · intro w1 hg
      refine upon_w (js := []) (by kernel_rfl) ?_
      refine upon_n ?_
      intro K Q' hK
      go_simp; exact hK _ _ rfl (Grow.refl _) rfl
    -- 1: binOp BinOp.eql 25 t81 1:i64 25
    · intro w1 hg
      refine upon_w (js := [0]) (by kernel_rfl) ?_
      refine upon_c (x := some 81) (by kernel_rfl) rfl fun v0 h0 => ?_
      refine upon_n ?_
      rcases h0 with rfl
      intro K Q' hK
      go_simp; exact hK _ _ rfl (Grow.refl _) rfl
    -- 2: move t82
    · intro w1 hg
      refine upon_w (js := [1]) (by kernel_rfl) ?_
      refine upon_c (x := some 82) (by kernel_rfl) rfl fun v1 h1 => ?_
      refine upon_n ?_
      rcases h1 with rfl
      intro K Q' hK
      go_simp; exact hK _ _ rfl (Grow.refl _) rfl
    -- 3: move t4
    · intro w1 hg
      refine upon_w (js := [2]) (by kernel_rfl) ?_
      refine upon_c (x := some 83) (by kernel_rfl) rfl fun v2 h2 => ?_
      refine upon_n ?_
      rcases h2 with rfl
      intro K Q' hK
      go_simp; exact hK _ _ rfl (Grow.refl _) rfl
    -- 4: binOp BinOp.eql 25 t84 1:i64 25
    · intro w1 hg
      refine upon_w (js := [3, 2]) (by kernel_rfl) ?_
      refine upon_c (x := some 84) (by kernel_rfl) rfl fun v3 h3 => ?_
      refine upon_c (x := some 83) (by kernel_rfl) rfl fun v2 h2 => ?_
      refine upon_n ?_
      rcases h3 with rfl
      rcases h2 with rfl
      intro K Q' hK
      go_simp; exact hK _ _ rfl (Grow.refl _) rfl
    -- 5: pick t83 t85 false
    · intro w1 hg
      refine upon_w (js := [2, 4]) (by kernel_rfl) ?_
      refine upon_c (x := some 83) (by kernel_rfl) rfl fun v2 h2 => ?_
      refine upon_c (x := some 85) (by kernel_rfl) rfl fun v4 h4 => ?_
      refine upon_n ?_
      rcases h2 with rfl
      rcases h4 with rfl
      intro K Q' hK
      go_simp; exact hK _ _ rfl (Grow.refl _) rfl
    -- 6: move t86
    · intro w1 hg
      refine upon_w (js := [5, 2]) (by kernel_rfl) ?_
      refine upon_c (x := some 86) (by kernel_rfl) rfl fun v5 h5 => ?_
      refine upon_c (x := some 83) (by kernel_rfl) rfl fun v2 h2 => ?_
      refine upon_n ?_
      rcases h5 with rfl
      rcases h2 with rfl
      intro K Q' hK
      go_simp; exact hK _ _ rfl (Grow.refl _) rfl
    -- 7: move t7
    · intro w1 hg
      refine upon_w (js := [6]) (by kernel_rfl) ?_
      refine upon_c (x := some 87) (by kernel_rfl) rfl fun v6 h6 => ?_
      refine upon_n ?_
      rcases h6 with rfl
      intro K Q' hK
      go_simp; exact hK _ _ rfl (Grow.refl _) rfl
    -- 8: binOp BinOp.eql 25 t88 1:i64 25
    · intro w1 hg
      refine upon_w (js := [7, 6]) (by kernel_rfl) ?_
      refine upon_c (x := some 88) (by kernel_rfl) rfl fun v7 h7 => ?_
      refine upon_c (x := some 87) (by kernel_rfl) rfl fun v6 h6 => ?_
      refine upon_n ?_
      rcases h7 with rfl
      rcases h6 with rfl
      intro K Q' hK
      go_simp; exact hK _ _ rfl (Grow.refl _) rfl
    -- 9: pick t87 t89 false
    · intro w1 hg
      refine upon_w (js := [6, 8]) (by kernel_rfl) ?_
      refine upon_c (x := some 87) (by kernel_rfl) rfl fun v6 h6 => ?_
      refine upon_c (x := some 89) (by kernel_rfl) rfl fun v8 h8 => ?_
      refine upon_n ?_
      rcases h6 with rfl
      rcases h8 with rfl
      intro K Q' hK
      go_simp; exact hK _ _ rfl (Grow.refl _) rfl
    -- 10: move t90
    · intro w1 hg
      refine upon_w (js := [9, 6]) (by kernel_rfl) ?_
      refine upon_c (x := some 90) (by kernel_rfl) rfl fun v9 h9 => ?_
      refine upon_c (x := some 87) (by kernel_rfl) rfl fun v6 h6 => ?_
      refine upon_n ?_
      rcases h9 with rfl
      rcases h6 with rfl
      intro K Q' hK
      go_simp; exact hK _ _ rfl (Grow.refl _) rfl
    -- 11: move t8
    · intro w1 hg
      refine upon_w (js := [10]) (by kernel_rfl) ?_
      refine upon_c (x := some 91) (by kernel_rfl) rfl fun v10 h10 => ?_
      refine upon_n ?_
      rcases h10 with rfl
      intro K Q' hK
      go_simp; exact hK _ _ rfl (Grow.refl _) rfl
    -- 12: binOp BinOp.eql 25 t92 1:i64 25
    · intro w1 hg
      refine upon_w (js := [11, 10]) (by kernel_rfl) ?_
      refine upon_c (x := some 92) (by kernel_rfl) rfl fun v11 h11 => ?_
      refine upon_c (x := some 91) (by kernel_rfl) rfl fun v10 h10 => ?_
      refine upon_n ?_
      rcases h11 with rfl
      rcases h10 with rfl
      intro K Q' hK
      go_simp; exact hK _ _ rfl (Grow.refl _) rfl
    -- 13: pick t91 t93 false
    · intro w1 hg
      refine upon_w (js := [10, 12]) (by kernel_rfl) ?_
      refine upon_c (x := some 91) (by kernel_rfl) rfl fun v10 h10 => ?_
      refine upon_c (x := some 93) (by kernel_rfl) rfl fun v12 h12 => ?_
      refine upon_n ?_
      rcases h10 with rfl
      rcases h12 with rfl
      intro K Q' hK
      go_simp; exact hK _ _ rfl (Grow.refl _) rfl
    -- 14: move t94
    · intro w1 hg
      refine upon_w (js := [13, 10]) (by kernel_rfl) ?_
      refine upon_c (x := some 94) (by kernel_rfl) rfl fun v13 h13 => ?_
      refine upon_c (x := some 91) (by kernel_rfl) rfl fun v10 h10 => ?_
      refine upon_n ?_
      rcases h13 with rfl
      rcases h10 with rfl
      intro K Q' hK
      go_simp; exact hK _ _ rfl (Grow.refl _) rfl
    -- 15: move t9
    · intro w1 hg
      refine upon_w (js := [14]) (by kernel_rfl) ?_
      refine upon_c (x := some 95) (by kernel_rfl) rfl fun v14 h14 => ?_
      refine upon_n ?_
      rcases h14 with rfl
      intro K Q' hK
      go_simp; exact hK _ _ rfl (Grow.refl _) rfl
    -- 16: convert 30 9 t96
    · intro w1 hg
      refine upon_w (js := [15, 14]) (by kernel_rfl) ?_
      refine upon_c (x := some 96) (by kernel_rfl) rfl fun v15 h15 => ?_
      refine upon_c (x := some 95) (by kernel_rfl) rfl fun v14 h14 => ?_
      refine upon_n ?_
      rcases h15 with rfl
      rcases h14 with rfl
      intro K Q' hK
      have s := str3_of 30 9 5 Try.underlying30 Try.underlying5 Try.underlying9 ((K17.out.later (w17_of hg)).kept M10.out) c10
      go_simp; exact hK _ _ rfl (Grow.refl _) rfl
    -- 17: call fn10<locksmithlaw3.sector> [2:i64] T[3]
    · intro w1 hg
      refine upon_w (js := [14, 14]) (by kernel_rfl) ?_
      refine upon_c (x := some 95) (by kernel_rfl) rfl fun v14 h14 => ?_
      refine upon_c (x := some 95) (by kernel_rfl) rfl fun v14 h14 => ?_
      refine upon_n ?_
      rcases h14 with rfl
      rcases h14 with rfl
      intro K Q' hK
      go_wp2_with (go_at_call 10; refine (sector_any 2 _).mono ?_; rintro e u ⟨b, d, rfl, ho, hb⟩; rw [← HX2.out] at ho; refine hK _ _ rfl hb ⟨b, d, rfl, RdB.of_own ho⟩)
    -- 18: convert 30 9 t98
    · intro w1 hg
      refine upon_w (js := [17, 14]) (by kernel_rfl) ?_
      refine upon_c (x := some 98) (by kernel_rfl) rfl fun v17 h17 => ?_
      refine upon_c (x := some 95) (by kernel_rfl) rfl fun v14 h14 => ?_
      refine upon_n ?_
      rcases h14 with rfl
      intro K Q' hK
      obtain ⟨b, d, rfl, hr⟩ := h17
      have s := str3_of 30 9 5 Try.underlying30 Try.underlying5 Try.underlying9 hr d
      go_simp; exact hK _ _ rfl (Grow.refl _) rfl
    -- 19: binOp BinOp.eql 9 t97 t99 9
    · intro w1 hg
      refine upon_w (js := [16, 18, 14]) (by kernel_rfl) ?_
      refine upon_c (x := some 97) (by kernel_rfl) rfl fun v16 h16 => ?_
      refine upon_c (x := some 99) (by kernel_rfl) rfl fun v18 h18 => ?_
      refine upon_c (x := some 95) (by kernel_rfl) rfl fun v14 h14 => ?_
      refine upon_n ?_
      rcases h16 with rfl
      rcases h18 with rfl
      rcases h14 with rfl
      intro K Q' hK
      go_simp; exact hK _ _ rfl (Grow.refl _) rfl
    -- 20: pick t95 t100 false
    · intro w1 hg
      refine upon_w (js := [14, 19]) (by kernel_rfl) ?_
      refine upon_c (x := some 95) (by kernel_rfl) rfl fun v14 h14 => ?_
      refine upon_c (x := some 100) (by kernel_rfl) rfl fun v19 h19 => ?_
      refine upon_n ?_
      rcases h14 with rfl
      rcases h19 with rfl
      intro K Q' hK
      go_simp; exact hK _ _ rfl (Grow.refl _) rfl
    -- 21: move t101
    · intro w1 hg
      refine upon_w (js := [20, 17]) (by kernel_rfl) ?_
      refine upon_c (x := some 101) (by kernel_rfl) rfl fun v20 h20 => ?_
      refine upon_c (x := some 98) (by kernel_rfl) rfl fun v17 h17 => ?_
      refine upon_n ?_
      rcases h20 with rfl
      intro K Q' hK
      go_simp; exact hK _ _ rfl (Grow.refl _) rfl
    -- 22: move t11
    · intro w1 hg
      refine upon_w (js := [21]) (by kernel_rfl) ?_
      refine upon_c (x := some 102) (by kernel_rfl) rfl fun v21 h21 => ?_
      refine upon_n ?_
      rcases h21 with rfl
      intro K Q' hK
      go_simp; exact hK _ _ rfl (Grow.refl _) rfl
    -- 23: binOp BinOp.eql 3 t103 2:i64 3
    · intro w1 hg
      refine upon_w (js := [22, 21]) (by kernel_rfl) ?_
      refine upon_c (x := some 103) (by kernel_rfl) rfl fun v22 h22 => ?_
      refine upon_c (x := some 102) (by kernel_rfl) rfl fun v21 h21 => ?_
      refine upon_n ?_
      rcases h22 with rfl
      rcases h21 with rfl
      intro K Q' hK
      go_simp; exact hK _ _ rfl (Grow.refl _) rfl
    -- 24: pick t102 t104 false
    · intro w1 hg
      refine upon_w (js := [21, 23]) (by kernel_rfl) ?_
      refine upon_c (x := some 102) (by kernel_rfl) rfl fun v21 h21 => ?_
      refine upon_c (x := some 104) (by kernel_rfl) rfl fun v23 h23 => ?_
      refine upon_n ?_
      rcases h21 with rfl
      rcases h23 with rfl
      intro K Q' hK
      go_simp; exact hK _ _ rfl (Grow.refl _) rfl
    -- 25: move t105
    · intro w1 hg
      refine upon_w (js := [24, 21]) (by kernel_rfl) ?_
      refine upon_c (x := some 105) (by kernel_rfl) rfl fun v24 h24 => ?_
      refine upon_c (x := some 102) (by kernel_rfl) rfl fun v21 h21 => ?_
      refine upon_n ?_
      rcases h24 with rfl
      rcases h21 with rfl
      intro K Q' hK
      go_simp; exact hK _ _ rfl (Grow.refl _) rfl
    -- 26: move t12
    · intro w1 hg
      refine upon_w (js := [25]) (by kernel_rfl) ?_
      refine upon_c (x := some 106) (by kernel_rfl) rfl fun v25 h25 => ?_
      refine upon_n ?_
      rcases h25 with rfl
      intro K Q' hK
      go_simp; exact hK _ _ rfl (Grow.refl _) rfl
    -- 27: convert 30 9 t107
    · intro w1 hg
      refine upon_w (js := [26, 25]) (by kernel_rfl) ?_
      refine upon_c (x := some 107) (by kernel_rfl) rfl fun v26 h26 => ?_
      refine upon_c (x := some 106) (by kernel_rfl) rfl fun v25 h25 => ?_
      refine upon_n ?_
      rcases h26 with rfl
      rcases h25 with rfl
      intro K Q' hK
      have s := str3_of 30 9 5 Try.underlying30 Try.underlying5 Try.underlying9 ((K17.out.later (w17_of hg)).kept M13.out) c13
      go_simp; exact hK _ _ rfl (Grow.refl _) rfl
    -- 28: call fn10<locksmithlaw3.sector> [1:i64] T[3]
    · intro w1 hg
      refine upon_w (js := [25, 25]) (by kernel_rfl) ?_
      refine upon_c (x := some 106) (by kernel_rfl) rfl fun v25 h25 => ?_
      refine upon_c (x := some 106) (by kernel_rfl) rfl fun v25 h25 => ?_
      refine upon_n ?_
      rcases h25 with rfl
      rcases h25 with rfl
      intro K Q' hK
      go_wp2_with (go_at_call 10; refine (sector_any 1 _).mono ?_; rintro e u ⟨b, d, rfl, ho, hb⟩; rw [← HX1.out] at ho; refine hK _ _ rfl hb ⟨b, d, rfl, RdB.of_own ho⟩)
    -- 29: convert 30 9 t109
    · intro w1 hg
      refine upon_w (js := [28, 25]) (by kernel_rfl) ?_
      refine upon_c (x := some 109) (by kernel_rfl) rfl fun v28 h28 => ?_
      refine upon_c (x := some 106) (by kernel_rfl) rfl fun v25 h25 => ?_
      refine upon_n ?_
      rcases h25 with rfl
      intro K Q' hK
      obtain ⟨b, d, rfl, hr⟩ := h28
      have s := str3_of 30 9 5 Try.underlying30 Try.underlying5 Try.underlying9 hr d
      go_simp; exact hK _ _ rfl (Grow.refl _) rfl
    -- 30: binOp BinOp.eql 9 t108 t110 9
    · intro w1 hg
      refine upon_w (js := [27, 29, 25]) (by kernel_rfl) ?_
      refine upon_c (x := some 108) (by kernel_rfl) rfl fun v27 h27 => ?_
      refine upon_c (x := some 110) (by kernel_rfl) rfl fun v29 h29 => ?_
      refine upon_c (x := some 106) (by kernel_rfl) rfl fun v25 h25 => ?_
      refine upon_n ?_
      rcases h27 with rfl
      rcases h29 with rfl
      rcases h25 with rfl
      intro K Q' hK
      go_simp; exact hK _ _ rfl (Grow.refl _) rfl
    -- 31: pick t106 t111 false
    · intro w1 hg
      refine upon_w (js := [25, 30]) (by kernel_rfl) ?_
      refine upon_c (x := some 106) (by kernel_rfl) rfl fun v25 h25 => ?_
      refine upon_c (x := some 111) (by kernel_rfl) rfl fun v30 h30 => ?_
      refine upon_n ?_
      rcases h25 with rfl
      rcases h30 with rfl
      intro K Q' hK
      go_simp; exact hK _ _ rfl (Grow.refl _) rfl
    -- 32: move t112
    · intro w1 hg
      refine upon_w (js := [31, 28]) (by kernel_rfl) ?_
      refine upon_c (x := some 112) (by kernel_rfl) rfl fun v31 h31 => ?_
      refine upon_c (x := some 109) (by kernel_rfl) rfl fun v28 h28 => ?_
      refine upon_n ?_
      rcases h31 with rfl
      intro K Q' hK
      go_simp; exact hK _ _ rfl (Grow.refl _) rfl
    -- 33: move t14
    · intro w1 hg
      refine upon_w (js := [32]) (by kernel_rfl) ?_
      refine upon_c (x := some 113) (by kernel_rfl) rfl fun v32 h32 => ?_
      refine upon_n ?_
      rcases h32 with rfl
      intro K Q' hK
      go_simp; exact hK _ _ rfl (Grow.refl _) rfl
    -- 34: binOp BinOp.eql 25 t114 0:i64 25
    · intro w1 hg
      refine upon_w (js := [33, 32]) (by kernel_rfl) ?_
      refine upon_c (x := some 114) (by kernel_rfl) rfl fun v33 h33 => ?_
      refine upon_c (x := some 113) (by kernel_rfl) rfl fun v32 h32 => ?_
      refine upon_n ?_
      rcases h33 with rfl
      rcases h32 with rfl
      intro K Q' hK
      go_simp; exact hK _ _ rfl (Grow.refl _) rfl
    -- 35: pick t113 t115 false
    · intro w1 hg
      refine upon_w (js := [32, 34]) (by kernel_rfl) ?_
      refine upon_c (x := some 113) (by kernel_rfl) rfl fun v32 h32 => ?_
      refine upon_c (x := some 115) (by kernel_rfl) rfl fun v34 h34 => ?_
      refine upon_n ?_
      rcases h32 with rfl
      rcases h34 with rfl
      intro K Q' hK
      go_simp; exact hK _ _ rfl (Grow.refl _) rfl
    -- 36: move t116
    · intro w1 hg
      refine upon_w (js := [35, 32]) (by kernel_rfl) ?_
      refine upon_c (x := some 116) (by kernel_rfl) rfl fun v35 h35 => ?_
      refine upon_c (x := some 113) (by kernel_rfl) rfl fun v32 h32 => ?_
      refine upon_n ?_
      rcases h35 with rfl
      rcases h32 with rfl
      intro K Q' hK
      go_simp; exact hK _ _ rfl (Grow.refl _) rfl
    -- 37: move t15
    · intro w1 hg
      refine upon_w (js := [36]) (by kernel_rfl) ?_
      refine upon_c (x := some 117) (by kernel_rfl) rfl fun v36 h36 => ?_
      refine upon_n ?_
      rcases h36 with rfl
      intro K Q' hK
      go_simp; exact hK _ _ rfl (Grow.refl _) rfl
    -- 38: convert 30 9 t118
    · intro w1 hg
      refine upon_w (js := [37, 36]) (by kernel_rfl) ?_
      refine upon_c (x := some 118) (by kernel_rfl) rfl fun v37 h37 => ?_
      refine upon_c (x := some 117) (by kernel_rfl) rfl fun v36 h36 => ?_
      refine upon_n ?_
      rcases h37 with rfl
      rcases h36 with rfl
      intro K Q' hK
      have s := str3_of 30 9 5 Try.underlying30 Try.underlying5 Try.underlying9 ((K17.out.later (w17_of hg)).kept M17.out) c17
      go_simp; exact hK _ _ rfl (Grow.refl _) rfl
    -- 39: call fn10<locksmithlaw3.sector> [4:i64] T[3]
    · intro w1 hg
      refine upon_w (js := [36, 36]) (by kernel_rfl) ?_
      refine upon_c (x := some 117) (by kernel_rfl) rfl fun v36 h36 => ?_
      refine upon_c (x := some 117) (by kernel_rfl) rfl fun v36 h36 => ?_
      refine upon_n ?_
      rcases h36 with rfl
      rcases h36 with rfl
      intro K Q' hK
      go_wp2_with (go_at_call 10; refine (sector_any 4 _).mono ?_; rintro e u ⟨b, d, rfl, ho, hb⟩; rw [← HX4.out] at ho; refine hK _ _ rfl hb ⟨b, d, rfl, RdB.of_own ho⟩)
    -- 40: convert 30 9 t120
    · intro w1 hg
      refine upon_w (js := [39, 36]) (by kernel_rfl) ?_
      refine upon_c (x := some 120) (by kernel_rfl) rfl fun v39 h39 => ?_
      refine upon_c (x := some 117) (by kernel_rfl) rfl fun v36 h36 => ?_
      refine upon_n ?_
      rcases h36 with rfl
      intro K Q' hK
      obtain ⟨b, d, rfl, hr⟩ := h39
      have s := str3_of 30 9 5 Try.underlying30 Try.underlying5 Try.underlying9 hr d
      go_simp; exact hK _ _ rfl (Grow.refl _) rfl
    -- 41: binOp BinOp.eql 9 t119 t121 9
    · intro w1 hg
      refine upon_w (js := [38, 40, 36]) (by kernel_rfl) ?_
      refine upon_c (x := some 119) (by kernel_rfl) rfl fun v38 h38 => ?_
      refine upon_c (x := some 121) (by kernel_rfl) rfl fun v40 h40 => ?_
      refine upon_c (x := some 117) (by kernel_rfl) rfl fun v36 h36 => ?_
      refine upon_n ?_
      rcases h38 with rfl
      rcases h40 with rfl
      rcases h36 with rfl
      intro K Q' hK
      go_simp; exact hK _ _ rfl (Grow.refl _) rfl
    -- 42: pick t117 t122 false
    · intro w1 hg
      refine upon_w (js := [36, 41]) (by kernel_rfl) ?_
      refine upon_c (x := some 117) (by kernel_rfl) rfl fun v36 h36 => ?_
      refine upon_c (x := some 122) (by kernel_rfl) rfl fun v41 h41 => ?_
      refine upon_n ?_
      rcases h36 with rfl
      rcases h41 with rfl
      intro K Q' hK
      go_simp; exact hK _ _ rfl (Grow.refl _) rfl
    -- 43: move t123
    · intro w1 hg
      refine upon_w (js := [42, 39]) (by kernel_rfl) ?_
      refine upon_c (x := some 123) (by kernel_rfl) rfl fun v42 h42 => ?_
      refine upon_c (x := some 120) (by kernel_rfl) rfl fun v39 h39 => ?_
      refine upon_n ?_
      rcases h42 with rfl
      intro K Q' hK
      go_simp; exact hK _ _ rfl (Grow.refl _) rfl
    -- 44: move t18
    · intro w1 hg
      refine upon_w (js := [43]) (by kernel_rfl) ?_
      refine upon_c (x := some 124) (by kernel_rfl) rfl fun v43 h43 => ?_
      refine upon_n ?_
      rcases h43 with rfl
      intro K Q' hK
      go_simp; exact hK _ _ rfl (Grow.refl _) rfl
    -- 45: binOp BinOp.eql 25 t125 1:i64 25
    · intro w1 hg
      refine upon_w (js := [44, 43]) (by kernel_rfl) ?_
      refine upon_c (x := some 125) (by kernel_rfl) rfl fun v44 h44 => ?_
      refine upon_c (x := some 124) (by kernel_rfl) rfl fun v43 h43 => ?_
      refine upon_n ?_
      rcases h44 with rfl
      rcases h43 with rfl
      intro K Q' hK
      go_simp; exact hK _ _ rfl (Grow.refl _) rfl
    -- 46: pick t124 t126 false
    · intro w1 hg
      refine upon_w (js := [43, 45]) (by kernel_rfl) ?_
      refine upon_c (x := some 124) (by kernel_rfl) rfl fun v43 h43 => ?_
      refine upon_c (x := some 126) (by kernel_rfl) rfl fun v45 h45 => ?_
      refine upon_n ?_
      rcases h43 with rfl
      rcases h45 with rfl
      intro K Q' hK
      go_simp; exact hK _ _ rfl (Grow.refl _) rfl
    -- 47: move t127
    · intro w1 hg
      refine upon_w (js := [46, 43]) (by kernel_rfl) ?_
      refine upon_c (x := some 127) (by kernel_rfl) rfl fun v46 h46 => ?_
      refine upon_c (x := some 124) (by kernel_rfl) rfl fun v43 h43 => ?_
      refine upon_n ?_
      rcases h46 with rfl
      rcases h43 with rfl
      intro K Q' hK
      go_simp; exact hK _ _ rfl (Grow.refl _) rfl
    -- 48: move t5
    · intro w1 hg
      refine upon_w (js := [47]) (by kernel_rfl) ?_
      refine upon_c (x := some 128) (by kernel_rfl) rfl fun v47 h47 => ?_
      refine upon_n ?_
      rcases h47 with rfl
      intro K Q' hK
      go_simp; exact hK _ _ rfl (Grow.refl _) rfl
    -- 49: call fn17<disk.Disk).Works> [t129] T[24]
    · intro w1 hg
      refine upon_w (js := [48, 47, 47]) (by kernel_rfl) ?_
      refine upon_c (x := some 129) (by kernel_rfl) rfl fun v48 h48 => ?_
      refine upon_c (x := some 128) (by kernel_rfl) rfl fun v47 h47 => ?_
      refine upon_c (x := some 128) (by kernel_rfl) rfl fun v47 h47 => ?_
      refine upon_n ?_
      rcases h48 with rfl
      rcases h47 with rfl
      rcases h47 with rfl
      intro K Q' hK
      have hk := K17.out.later (w17_of hg)
      go_wp2_with (go_at_call 17; refine (works_s p _ _ w _ hk).mono ?_; rintro e u ⟨rfl, rfl⟩; refine hK _ _ rfl (Grow.refl _) ?_; rw [Q1.out]; rfl)
    -- 50: binOp BinOp.eql 3 t130 4:i64 3
    · intro w1 hg
      refine upon_w (js := [49, 47]) (by kernel_rfl) ?_
      refine upon_c (x := some 130) (by kernel_rfl) rfl fun v49 h49 => ?_
      refine upon_c (x := some 128) (by kernel_rfl) rfl fun v47 h47 => ?_
      refine upon_n ?_
      rcases h49 with rfl
      rcases h47 with rfl
      intro K Q' hK
      go_simp; exact hK _ _ rfl (Grow.refl _) rfl
    -- 51: pick t128 t131 false
    · intro w1 hg
      refine upon_w (js := [47, 50]) (by kernel_rfl) ?_
      refine upon_c (x := some 128) (by kernel_rfl) rfl fun v47 h47 => ?_
      refine upon_c (x := some 131) (by kernel_rfl) rfl fun v50 h50 => ?_
      refine upon_n ?_
      rcases h47 with rfl
      rcases h50 with rfl
      intro K Q' hK
      go_simp; exact hK _ _ rfl (Grow.refl _) rfl
    -- 52: move t132
    · intro w1 hg
      refine upon_w (js := [51, 49]) (by kernel_rfl) ?_
      refine upon_c (x := some 132) (by kernel_rfl) rfl fun v51 h51 => ?_
      refine upon_c (x := some 130) (by kernel_rfl) rfl fun v49 h49 => ?_
      refine upon_n ?_
      rcases h51 with rfl
      rcases h49 with rfl
      intro K Q' hK
      go_simp; exact hK _ _ rfl (Grow.refl _) rfl
    -- 53: move t5
    · intro w1 hg
      refine upon_w (js := [52]) (by kernel_rfl) ?_
      refine upon_c (x := some 133) (by kernel_rfl) rfl fun v52 h52 => ?_
      refine upon_n ?_
      rcases h52 with rfl
      intro K Q' hK
      go_simp; exact hK _ _ rfl (Grow.refl _) rfl
    -- 54: call fn19<disk.Disk).Sectors> [t134] T[24]
    · intro w1 hg
      refine upon_w (js := [53, 52, 52]) (by kernel_rfl) ?_
      refine upon_c (x := some 134) (by kernel_rfl) rfl fun v53 h53 => ?_
      refine upon_c (x := some 133) (by kernel_rfl) rfl fun v52 h52 => ?_
      refine upon_c (x := some 133) (by kernel_rfl) rfl fun v52 h52 => ?_
      refine upon_n ?_
      rcases h53 with rfl
      rcases h52 with rfl
      rcases h52 with rfl
      intro K Q' hK
      have hk := K17.out.later (w17_of hg)
      go_wp2_with (go_at_call 19; refine (sectors_s p _ _ w _ hk).mono ?_; rintro e u ⟨rfl, rfl⟩; refine hK _ _ rfl (Grow.refl _) ?_; rw [Q2.out]; rfl)
    -- 55: binOp BinOp.eql 3 t135 8:i64 3
    · intro w1 hg
      refine upon_w (js := [54, 52]) (by kernel_rfl) ?_
      refine upon_c (x := some 135) (by kernel_rfl) rfl fun v54 h54 => ?_
      refine upon_c (x := some 133) (by kernel_rfl) rfl fun v52 h52 => ?_
      refine upon_n ?_
      rcases h54 with rfl
      rcases h52 with rfl
      intro K Q' hK
      go_simp; exact hK _ _ rfl (Grow.refl _) rfl
    -- 56: pick t133 t136 false
    · intro w1 hg
      refine upon_w (js := [52, 55]) (by kernel_rfl) ?_
      refine upon_c (x := some 133) (by kernel_rfl) rfl fun v52 h52 => ?_
      refine upon_c (x := some 136) (by kernel_rfl) rfl fun v55 h55 => ?_
      refine upon_n ?_
      rcases h52 with rfl
      rcases h55 with rfl
      intro K Q' hK
      go_simp; exact hK _ _ rfl (Grow.refl _) rfl
    -- 57: move t137
    · intro w1 hg
      refine upon_w (js := [56, 54]) (by kernel_rfl) ?_
      refine upon_c (x := some 137) (by kernel_rfl) rfl fun v56 h56 => ?_
      refine upon_c (x := some 135) (by kernel_rfl) rfl fun v54 h54 => ?_
      refine upon_n ?_
      rcases h56 with rfl
      rcases h54 with rfl
      intro K Q' hK
      go_simp; exact hK _ _ rfl (Grow.refl _) rfl
    -- 58: move t5
    · intro w1 hg
      refine upon_w (js := [57]) (by kernel_rfl) ?_
      refine upon_c (x := some 138) (by kernel_rfl) rfl fun v57 h57 => ?_
      refine upon_n ?_
      rcases h57 with rfl
      intro K Q' hK
      go_simp; exact hK _ _ rfl (Grow.refl _) rfl
    -- 59: call fn18<disk.Disk).Pending> [t139] T[24]
    · intro w1 hg
      refine upon_w (js := [58, 57, 57]) (by kernel_rfl) ?_
      refine upon_c (x := some 139) (by kernel_rfl) rfl fun v58 h58 => ?_
      refine upon_c (x := some 138) (by kernel_rfl) rfl fun v57 h57 => ?_
      refine upon_c (x := some 138) (by kernel_rfl) rfl fun v57 h57 => ?_
      refine upon_n ?_
      rcases h58 with rfl
      rcases h57 with rfl
      rcases h57 with rfl
      intro K Q' hK
      obtain ⟨F, hk, _⟩ := K17.out.later (w17_of hg)
      have hq := Q3.out
      go_wp2_with (go_at_call 18; refine (pending_any p _ _ _ hk (by omega)).mono ?_; rintro e u ⟨a, c, rfl, hb⟩; refine hK _ _ rfl hb ⟨a, c, ?_⟩; rw [hq]; rfl)
    -- 60: call len [t140] T[46]
    · intro w1 hg
      refine upon_w (js := [59, 57]) (by kernel_rfl) ?_
      refine upon_c (x := some 140) (by kernel_rfl) rfl fun v59 h59 => ?_
      refine upon_c (x := some 138) (by kernel_rfl) rfl fun v57 h57 => ?_
      refine upon_n ?_
      rcases h57 with rfl
      intro K Q' hK
      obtain ⟨a, c, rfl⟩ := h59
      go_simp; exact hK _ _ rfl (Grow.refl _) rfl
    -- 61: binOp BinOp.eql 3 t141 0:i64 3
    · intro w1 hg
      refine upon_w (js := [60, 57]) (by kernel_rfl) ?_
      refine upon_c (x := some 141) (by kernel_rfl) rfl fun v60 h60 => ?_
      refine upon_c (x := some 138) (by kernel_rfl) rfl fun v57 h57 => ?_
      refine upon_n ?_
      rcases h60 with rfl
      rcases h57 with rfl
      intro K Q' hK
      go_simp; exact hK _ _ rfl (Grow.refl _) rfl
    -- 62: pick t138 t142 false
    · intro w1 hg
      refine upon_w (js := [57, 61]) (by kernel_rfl) ?_
      refine upon_c (x := some 138) (by kernel_rfl) rfl fun v57 h57 => ?_
      refine upon_c (x := some 142) (by kernel_rfl) rfl fun v61 h61 => ?_
      refine upon_n ?_
      rcases h57 with rfl
      rcases h61 with rfl
      intro K Q' hK
      go_simp; exact hK _ _ rfl (Grow.refl _) rfl
  intro w1 hg
  refine upon_w' (js := [0, 1, 2, 3, 4, 5, 6, 7, 8, 9, 10, 11, 12, 13, 14, 15, 16, 17, 18, 19, 20, 21, 22, 23, 24, 25, 26, 27, 28, 29, 30, 31, 32, 33, 34, 35, 36, 37, 38, 39, 40, 41, 42, 43, 44, 45, 46, 47, 48, 49, 50, 51, 52, 53, 54, 55, 56, 57, 58, 59, 60, 61, 62]) (by rfl) ?_
  refine upon_c (x := some 81) (by kernel_rfl) rfl fun v0 h0 => ?_
  refine upon_c (x := some 82) (by kernel_rfl) rfl fun v1 h1 => ?_
  refine upon_c (x := some 83) (by kernel_rfl) rfl fun v2 h2 => ?_
  refine upon_c (x := some 84) (by kernel_rfl) rfl fun v3 h3 => ?_
  refine upon_c (x := some 85) (by kernel_rfl) rfl fun v4 h4 => ?_
  refine upon_c (x := some 86) (by kernel_rfl) rfl fun v5 h5 => ?_
  refine upon_c (x := some 87) (by kernel_rfl) rfl fun v6 h6 => ?_
  refine upon_c (x := some 88) (by kernel_rfl) rfl fun v7 h7 => ?_
  refine upon_c (x := some 89) (by kernel_rfl) rfl fun v8 h8 => ?_
  refine upon_c (x := some 90) (by kernel_rfl) rfl fun v9 h9 => ?_
  refine upon_c (x := some 91) (by kernel_rfl) rfl fun v10 h10 => ?_
  refine upon_c (x := some 92) (by kernel_rfl) rfl fun v11 h11 => ?_
  refine upon_c (x := some 93) (by kernel_rfl) rfl fun v12 h12 => ?_
  refine upon_c (x := some 94) (by kernel_rfl) rfl fun v13 h13 => ?_
  refine upon_c (x := some 95) (by kernel_rfl) rfl fun v14 h14 => ?_
  refine upon_c (x := some 96) (by kernel_rfl) rfl fun v15 h15 => ?_
  refine upon_c (x := some 97) (by kernel_rfl) rfl fun v16 h16 => ?_
  refine upon_c (x := some 98) (by kernel_rfl) rfl fun v17 h17 => ?_
  refine upon_c (x := some 99) (by kernel_rfl) rfl fun v18 h18 => ?_
  refine upon_c (x := some 100) (by kernel_rfl) rfl fun v19 h19 => ?_
  refine upon_c (x := some 101) (by kernel_rfl) rfl fun v20 h20 => ?_
  refine upon_c (x := some 102) (by kernel_rfl) rfl fun v21 h21 => ?_
  refine upon_c (x := some 103) (by kernel_rfl) rfl fun v22 h22 => ?_
  refine upon_c (x := some 104) (by kernel_rfl) rfl fun v23 h23 => ?_
  refine upon_c (x := some 105) (by kernel_rfl) rfl fun v24 h24 => ?_
  refine upon_c (x := some 106) (by kernel_rfl) rfl fun v25 h25 => ?_
  refine upon_c (x := some 107) (by kernel_rfl) rfl fun v26 h26 => ?_
  refine upon_c (x := some 108) (by kernel_rfl) rfl fun v27 h27 => ?_
  refine upon_c (x := some 109) (by kernel_rfl) rfl fun v28 h28 => ?_
  refine upon_c (x := some 110) (by kernel_rfl) rfl fun v29 h29 => ?_
  refine upon_c (x := some 111) (by kernel_rfl) rfl fun v30 h30 => ?_
  refine upon_c (x := some 112) (by kernel_rfl) rfl fun v31 h31 => ?_
  refine upon_c (x := some 113) (by kernel_rfl) rfl fun v32 h32 => ?_
  refine upon_c (x := some 114) (by kernel_rfl) rfl fun v33 h33 => ?_
  refine upon_c (x := some 115) (by kernel_rfl) rfl fun v34 h34 => ?_
  refine upon_c (x := some 116) (by kernel_rfl) rfl fun v35 h35 => ?_
  refine upon_c (x := some 117) (by kernel_rfl) rfl fun v36 h36 => ?_
  refine upon_c (x := some 118) (by kernel_rfl) rfl fun v37 h37 => ?_
  refine upon_c (x := some 119) (by kernel_rfl) rfl fun v38 h38 => ?_
  refine upon_c (x := some 120) (by kernel_rfl) rfl fun v39 h39 => ?_
  refine upon_c (x := some 121) (by kernel_rfl) rfl fun v40 h40 => ?_
  refine upon_c (x := some 122) (by kernel_rfl) rfl fun v41 h41 => ?_
  refine upon_c (x := some 123) (by kernel_rfl) rfl fun v42 h42 => ?_
  refine upon_c (x := some 124) (by kernel_rfl) rfl fun v43 h43 => ?_
  refine upon_c (x := some 125) (by kernel_rfl) rfl fun v44 h44 => ?_
  refine upon_c (x := some 126) (by kernel_rfl) rfl fun v45 h45 => ?_
  refine upon_c (x := some 127) (by kernel_rfl) rfl fun v46 h46 => ?_
  refine upon_c (x := some 128) (by kernel_rfl) rfl fun v47 h47 => ?_
  refine upon_c (x := some 129) (by kernel_rfl) rfl fun v48 h48 => ?_
  refine upon_c (x := some 130) (by kernel_rfl) rfl fun v49 h49 => ?_
  refine upon_c (x := some 131) (by kernel_rfl) rfl fun v50 h50 => ?_
  refine upon_c (x := some 132) (by kernel_rfl) rfl fun v51 h51 => ?_
  refine upon_c (x := some 133) (by kernel_rfl) rfl fun v52 h52 => ?_
  refine upon_c (x := some 134) (by kernel_rfl) rfl fun v53 h53 => ?_
  refine upon_c (x := some 135) (by kernel_rfl) rfl fun v54 h54 => ?_
  refine upon_c (x := some 136) (by kernel_rfl) rfl fun v55 h55 => ?_
  refine upon_c (x := some 137) (by kernel_rfl) rfl fun v56 h56 => ?_
  refine upon_c (x := some 138) (by kernel_rfl) rfl fun v57 h57 => ?_
  refine upon_c (x := some 139) (by kernel_rfl) rfl fun v58 h58 => ?_
  refine upon_c (x := some 140) (by kernel_rfl) rfl fun v59 h59 => ?_
  refine upon_c (x := some 141) (by kernel_rfl) rfl fun v60 h60 => ?_
  refine upon_c (x := some 142) (by kernel_rfl) rfl fun v61 h61 => ?_
  refine upon_c (x := some 143) (by kernel_rfl) rfl fun v62 h62 => ?_
  refine upon_n ?_
  rcases h0 with rfl
  rcases h1 with rfl
  rcases h2 with rfl
  rcases h3 with rfl
  rcases h4 with rfl
  rcases h5 with rfl
  rcases h6 with rfl
  rcases h7 with rfl
  rcases h8 with rfl
  rcases h9 with rfl
  rcases h10 with rfl
  rcases h11 with rfl
  rcases h12 with rfl
  rcases h13 with rfl
  rcases h14 with rfl
  rcases h15 with rfl
  rcases h16 with rfl
  rcases h18 with rfl
  rcases h19 with rfl
  rcases h20 with rfl
  rcases h21 with rfl
  rcases h22 with rfl
  rcases h23 with rfl
  rcases h24 with rfl
  rcases h25 with rfl
  rcases h26 with rfl
  rcases h27 with rfl
  rcases h29 with rfl
  rcases h30 with rfl
  rcases h31 with rfl
  rcases h32 with rfl
  rcases h33 with rfl
  rcases h34 with rfl
  rcases h35 with rfl
  rcases h36 with rfl
  rcases h37 with rfl
  rcases h38 with rfl
  rcases h40 with rfl
  rcases h41 with rfl
  rcases h42 with rfl
  rcases h43 with rfl
  rcases h44 with rfl
  rcases h45 with rfl
  rcases h46 with rfl
  rcases h47 with rfl
  rcases h48 with rfl
  rcases h49 with rfl
  rcases h50 with rfl
  rcases h51 with rfl
  rcases h52 with rfl
  rcases h53 with rfl
  rcases h54 with rfl
  rcases h55 with rfl
  rcases h56 with rfl
  rcases h57 with rfl
  rcases h58 with rfl
  rcases h60 with rfl
  rcases h61 with rfl
  rcases h62 with rfl
  go_wp2_with fail
  go_ret
  exact ⟨rfl, (K17.out.later (w17_of hg)).below⟩
end Go.Proofs.Ythcjiiknhldgoaa
