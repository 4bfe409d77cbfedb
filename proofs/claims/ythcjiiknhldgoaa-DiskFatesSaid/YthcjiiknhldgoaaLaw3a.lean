/- DiskFates. -/
import Derived.Test.YthcjiiknhldgoaaLaw3
import Derived.Test.YthcjiiknhldgoaaRegion
import Derived.Deep.DeepCutAuto
namespace Go.Proofs.Ythcjiiknhldgoaa
open Go.RowKit
set_option linter.unusedVariables false
set_option linter.unusedSimpArgs false
set_option maxRecDepth 100000
set_option maxHeartbeats 1000000

theorem crashed_append (fates : List Int) (r : List (Nat × List UInt8)) : ∀ (l : List (Nat × List UInt8)) (sec : List (List UInt8 × Bool)) (i : Nat), crashed fates sec i (l ++ r) = crashed fates (crashed fates sec i l) (i + l.length) r
  | [], sec, i => rfl
  | y :: l, sec, i => by
    rw [List.cons_append]
    simp only [crashed]
    rw [crashed_append fates r l, List.length_cons, show i + (l.length + 1) = i + 1 + l.length by omega]
theorem crashed_other (fates : List Int) (j : Nat) : ∀ (l : List (Nat × List UInt8)) (sec : List (List UInt8 × Bool)) (i : Nat), (∀ x ∈ l, x.1 ≠ j) → (crashed fates sec i l)[j]? = sec[j]?
  | [], sec, i, _ => rfl
  | y :: l, sec, i, h => by
    simp only [crashed]
    rw [crashed_other fates j l _ _ (fun x hx => h x (List.mem_cons_of_mem _ hx))]
    have hy := h y (List.mem_cons_self ..)
    split
    · rw [List.getElem?_set_ne hy]
    · split
      · rw [List.getElem?_set_ne hy]
      · rfl
theorem crashed_len (fates : List Int) : ∀ (l : List (Nat × List UInt8)) (sec : List (List UInt8 × Bool)) (i : Nat), (crashed fates sec i l).length = sec.length
  | [], sec, i => rfl
  | y :: l, sec, i => by
    simp only [crashed]
    rw [crashed_len fates l]
    split
    · simp
    · split <;> simp
theorem crashed_at (fates : List Int) (l : List (Nat × List UInt8)) (sec : List (List UInt8 × Bool)) (i j : Nat) (d : List UInt8) (hi : l[i]? = some (j, d)) (ho : ∀ k x, l[k]? = some x → k ≠ i → x.1 ≠ j) (hj : j < sec.length) :
    (crashed fates sec 0 l)[j]? = if fateOf fates i = 0 then some (d, false) else if fateOf fates i = 2 then some ([], true) else sec[j]? := by
  have hil : i < l.length := (List.getElem?_eq_some_iff.1 hi).1
  have e : l = l.take i ++ ((j, d) :: l.drop (i + 1)) := by
    have h1 : l.drop i = (j, d) :: l.drop (i + 1) := by
      rw [List.drop_eq_getElem_cons hil]
      rw [List.getElem?_eq_getElem hil] at hi
      rw [Option.some.inj hi]
    rw [← h1, List.take_append_drop]
  have hl : (l.take i).length = i := by rw [List.length_take]; omega
  have h1 : ∀ sec, (crashed fates sec 0 (l.take i))[j]? = sec[j]? := fun sec => crashed_other fates j _ sec 0 (fun x hx => by
    obtain ⟨k, hk⟩ := List.mem_iff_getElem?.1 hx
    rw [List.getElem?_take] at hk
    split at hk
    · exact ho k x hk (by omega)
    · cases hk)
  rw [e, crashed_append, hl, Nat.zero_add]
  simp only [crashed]
  rw [crashed_other fates j (l.drop (i + 1)) _ _ (fun x hx => by
    obtain ⟨k, hk⟩ := List.mem_iff_getElem?.1 hx
    rw [List.getElem?_drop] at hk
    exact ho _ x hk (by omega))]
  have h2 : j < (crashed fates sec 0 (l.take i)).length := by rw [crashed_len]; exact hj
  split
  · rw [List.getElem?_set_self h2]
  · split
    · rw [List.getElem?_set_self h2]
    · exact h1 sec

def S1 (f : Nat → List UInt8) (k : Nat) : DSt := { sec := List.replicate 20 (zeros, false), pend := (List.range k).map fun i => (i, f i), fuse := -1, down := false, works := k }
def S2 (f g : Nat → List UInt8) (k : Nat) : DSt := { sec := (List.range 20).map fun i => (f i, false), pend := (List.range k).map fun i => (19 - i, g i), fuse := -1, down := false, works := 21 + k }
def S3 (sec : List (List UInt8 × Bool)) (k : Nat) : DSt := { sec := sec, pend := [], fuse := -1, down := false, works := k }
def expAt (f g : Nat → List UInt8) (fates : List Int) (i : Nat) : List UInt8 × Bool := if fateOf fates i = 0 then (g i, false) else if fateOf fates i = 2 then ([], true) else (f (19 - i), false)
theorem S1_zero (f : Nat → List UInt8) : DSt.new 20 = S1 f 0 := rfl
theorem S1_write (f : Nat → List UInt8) (k : Nat) : (S1 f k).write k (f k) = S1 f (k + 1) := by
  have : (S1 f k).can = true := rfl
  unfold DSt.write DSt.work
  rw [if_pos this, if_pos this]
  simp [S1, List.range_succ]
  try rfl
theorem S1_flush (f g : Nat → List UInt8) : (S1 f 20).flush = S2 f g 0 := by kernel_rfl
theorem S2_write (f g : Nat → List UInt8) (k : Nat) : (S2 f g k).write (19 - k) (g k) = S2 f g (k + 1) := by
  have : (S2 f g k).can = true := rfl
  unfold DSt.write DSt.work
  rw [if_pos this, if_pos this]
  simp [S2, List.range_succ]
  try omega
theorem S2_crash (f g : Nat → List UInt8) (fates : List Int) : ∃ sec, (S2 f g 20).crash fates = S3 sec 41 ∧ sec.length = 20 ∧ ∀ j, j < 20 → sec[19 - j]? = some (expAt f g fates j) := by
  refine ⟨crashed fates ((List.range 20).map fun i => (f i, false)) 0 ((List.range 20).map fun i => (19 - i, g i)), rfl, by rw [crashed_len]; simp, fun j hj => ?_⟩
  rw [crashed_at fates _ _ j (19 - j) (g j) (by rw [List.getElem?_map, List.getElem?_range hj]; rfl) (fun k x hk hne => by
    rw [List.getElem?_map] at hk
    by_cases h : k < 20
    · rw [List.getElem?_range h] at hk
      cases hk
      show 19 - k ≠ 19 - j
      omega
    · rw [List.getElem?_eq_none (by simp; omega)] at hk
      cases hk) (by simp; omega)]
  unfold expAt
  split
  · rfl
  · split
    · rfl
    · rw [List.getElem?_map, List.getElem?_range (by omega)]; rfl
theorem S3_wf (sec : List (List UInt8 × Bool)) (k j : Nat) (x : List UInt8) : ((S3 sec k).write j x).flush = S3 (sec.set j (x, false)) (k + 2) := rfl
theorem S3_read (sec : List (List UInt8 × Bool)) (k j : Nat) (d : List UInt8) (b : Bool) (h : sec[j]? = some (d, b)) : (S3 sec k).read j = if b then ([], 8) else (d, 0) := by
  have hj : j < sec.length := (List.getElem?_eq_some_iff.1 h).1
  unfold DSt.read
  rw [if_neg (by show ¬ ((j : Int) < 0 ∨ (sec.length : Int) ≤ j); omega)]
  have h1 : sec.getD (j : Int).toNat default = (d, b) := by rw [List.getD_eq_getElem?_getD, Int.toNat_natCast, h]; rfl
  show (if false = true then _ else match lastOf [] (j : Int).toNat with | some d => (d, (0 : Int)) | none => if (sec.getD (j : Int).toNat default).2 then (([] : List UInt8), (8 : Int)) else ((sec.getD (j : Int).toNat default).1, (0 : Int))) = _
  rw [h1]
  rfl
def bools (l : List Bool) : List Value := l.map fun z => .bool z
theorem ints_get {w : World} {a : Option Addr} {n : Nat} {l : List Int} (h : RdC w a n (ints l)) {k : Nat} (hk : k < n) : ∃ b off, a = some ⟨b, off, none⟩ ∧ w.cell? ⟨b, off + k, none⟩ = some (.int .i64 (l.getD k 0)) ∧ k < l.length := by
  have hl : l.length = n := by have := h.len; simpa [ints] using this
  obtain ⟨b, off, ha, hc⟩ := h.cell k hk
  refine ⟨b, off, ha, hc k _ ?_, by omega⟩
  simp only [ints, List.getElem?_map, List.getD_eq_getElem?_getD]
  rw [List.getElem?_eq_getElem (by omega)]; rfl
theorem bools_get {w : World} {a : Option Addr} {n : Nat} {l : List Bool} (h : RdC w a n (bools l)) {k : Nat} (hk : k < n) : ∃ b off, a = some ⟨b, off, none⟩ ∧ w.cell? ⟨b, off + k, none⟩ = some (.bool (l.getD k false)) := by
  have hl : l.length = n := by have := h.len; simpa [bools] using this
  obtain ⟨b, off, ha, hc⟩ := h.cell k hk
  refine ⟨b, off, ha, hc k _ ?_⟩
  simp only [bools, List.getElem?_map, List.getD_eq_getElem?_getD]
  rw [List.getElem?_eq_getElem (by omega)]; rfl
theorem str_of {P : Program} (src dst e : TypeId) (hs : P.underlying src = some (.slice e)) (he : P.underlying e = some (.int .u8)) (hd : P.underlying dst = some .string) {w : World} {a : Option Addr} {n : Nat} {l : List UInt8} (h : RdB w a n l) (c : Nat) :
    (convert src dst (.slice a n c)).run P w = .ok (.string ⟨l.toArray⟩) w := run_bytes_str h c src dst e hs he hd

theorem drew_below {w w1 : World} (h : Below w.drew.heap.size w.drew w1) : Below w.heap.size w w1 := ⟨h.os, h.tape, h.output, h.size, h.block⟩
theorem DkS.drew {w0 w : World} {p : Nat} {s : DSt} {L : Kept} (h : DkS w0 w p s L) : DkS w0 w.drew p s L := h.later ⟨rfl, rfl, rfl, Nat.le_refl _, fun _ _ => rfl⟩
/-- Some bytes of a sector. -/
def sSec (x : List UInt8) : St Grow := ⟨fun v w => ∃ b d, v = .slice b 64 d ∧ RdB w b 64 x, fun v w w' h hg => let ⟨b, d, e, hr⟩ := h; ⟨b, d, e, hr.below hg⟩⟩
set_option maxHeartbeats 16000000 in
theorem diskFates_walk (aF : Option Addr) (nF cF : Nat) (lF : List Int) (aG : Option Addr) (nG cG : Nat) (lG : List Bool) (w : World) (hF : RdC w aF nF (ints lF)) (hFb : ∀ z ∈ lF, -9223372036854775808 ≤ z ∧ z ≤ 9223372036854775807) (hG : RdC w aG nG (bools lG)) :
    Calls Try.prog 3 #[.slice aF nF cF, .slice aG nG cG] w fun e w' => e = .returned (.bool true) ∧ Below w.heap.size w w' := by
  have HF := hid hF; have HFB := hid hFb; have HG := hid hG
  clear hF hFb hG
  obtain ⟨f, hf⟩ : ∃ f : Nat → List UInt8, f = fun (i : Nat) => handBytes 64 (100 + (i : Int)) := ⟨_, rfl⟩
  obtain ⟨g, hg⟩ : ∃ g : Nat → List UInt8, g = fun (i : Nat) => handBytes 64 (200 + (i : Int)) := ⟨_, rfl⟩
  have Hf := hid hf; have Hg := hid hg
  clear hf hg
  go_enter Try.func3, Try.ntmps3
  go_wp2_with fail
  refine (new_s 20 w _ (Below.refl _ _) (by omega) (by omega)).mono ?_
  rintro e w1 ⟨p, rfl, h1⟩
  rw [S1_zero f] at h1
  have H1 := hid h1; clear h1
  go_wp2_with fail
  refine (known3_any _).mono ?_
  rintro e w2 ⟨rfl, hb2⟩
  have H2 := hid (H1.out.later hb2); clear hb2
  go_wp2_with fail
  go_loopw [7] (fun x wr => ∃ (k : Nat), k ≤ 20 ∧ x = .int .i64 k ∧ DkS w wr p (S1 f k) []) (fun x _ => 20 - (intOf x).toNat)
  case atStart => exact ⟨0, Nat.zero_le _, rfl, H2.out⟩
  case round =>
    obtain ⟨k, hk, rfl, h3⟩ := hrel
    have H3 := hid h3; clear h3
    by_cases hlt : k < 20
    · go_wp2_with fail
      refine (sector_any _ _).mono ?_
      rintro e w4 ⟨a4, c4, rfl, ho4, hb4⟩
      have HO4 := hid ho4; have HB4 := hid hb4; clear ho4 hb4
      go_wp2_with fail
      refine (write_s p k _ a4 c4 _ [] w _ _ H3.out HB4.out HO4.out (by simpa [S1] using hlt) (by show k < _; omega) (by simp [S1]; omega)).mono ?_
      rintro e w5 ⟨rfl, h5⟩
      rw [show handBytes 64 (100 + (k : Int)) = f k by rw [Hf.out], S1_write] at h5
      have H5 := hid h5; clear h5
      go_wp2_with fail
      go_roundw
      case rel => exact ⟨k + 1, by omega, by go_num, H5.out⟩
      case measure => simp [intOf]; omega
    · obtain rfl : k = 20 := by omega
      go_wp2_with fail
      refine (flush_s p _ _ w _ H3.out (by show 20 < _; omega)).mono ?_
      rintro e w4 ⟨rfl, h4⟩
      rw [S1_flush f g] at h4
      have H4 := hid h4; clear h4
      go_wp2_with fail
      go_loopw [8] (fun x wr => ∃ (k : Nat), k ≤ 20 ∧ x = .int .i64 k ∧ DkS w wr p (S2 f g k) []) (fun x _ => 20 - (intOf x).toNat)
      case atStart => exact ⟨0, Nat.zero_le _, rfl, H4.out⟩
      case round =>
        obtain ⟨k, hk, rfl, h3⟩ := hrel
        have H3 := hid h3; clear h3
        by_cases hlt : k < 20
        · go_wp2_with fail
          refine (sector_any _ _).mono ?_
          rintro e w4 ⟨a4, c4, rfl, ho4, hb4⟩
          have HO4 := hid ho4; have HB4 := hid hb4; clear ho4 hb4
          go_wp2_with fail
          rw [show (19 : Int) - (k : Int) = ((19 - k : Nat) : Int) by omega]
          refine (write_s p (19 - k) _ a4 c4 _ [] w _ _ H3.out HB4.out HO4.out (by simp [S2]; omega) (by show 21 + k < _; omega) (by simp [S2]; omega)).mono ?_
          rintro e w5 ⟨rfl, h5⟩
          rw [show handBytes 64 (200 + (k : Int)) = g k by rw [Hg.out], S2_write] at h5
          have H5 := hid h5; clear h5
          go_wp2_with fail
          go_roundw
          case rel => exact ⟨k + 1, by omega, by go_num, H5.out⟩
          case measure => simp [intOf]; omega
        · obtain rfl : k = 20 := by omega
          go_wp2_with fail
          refine (crash_s p _ aF nF cF lF _ w _ _ H3.out (Below.refl _ _) (HF.out.below H3.out.below) HFB.out (fun h0 b off sp he => by
            obtain ⟨b', off', he', hc, _⟩ := ints_get HF.out h0
            rw [he] at he'; cases he'
            exact .inl (World.block_lt_of_cell? _ _ hc))).mono ?_
          rintro e w4 ⟨rfl, h4⟩
          obtain ⟨sec, hs, hsl, hsx⟩ := S2_crash f g lF
          rw [hs] at h4
          have H4 := hid h4; have HSX := hid hsx
          clear h4 hs hsx
          go_wp2_with fail
          go_loopw [9] (fun x wr => ∃ (k wk : Nat) (sec : List (List UInt8 × Bool)), k ≤ 20 ∧ x = .int .i64 k ∧ DkS w wr p (S3 sec wk) [] ∧ sec.length = 20 ∧ wk ≤ 41 + 2 * k ∧ ∀ j, k ≤ j → j < 20 → sec[19 - j]? = some (expAt f g lF j)) (fun x _ => 20 - (intOf x).toNat)
          case atStart => exact ⟨0, 41, sec, Nat.zero_le _, rfl, H4.out, hsl, by omega, fun j _ hj => HSX.out j hj⟩
          case round =>
            clear HSX hsl H4
            obtain ⟨k, wk, sec, hk, rfl, h3, hsl, hwk, hsx⟩ := hrel
            have H3 := hid h3; have HSX := hid hsx; clear h3 hsx
            by_cases hlt : k < 20
            · have hfate := fateOf_range lF k
              obtain ⟨ex, hex⟩ : ∃ ex, ex = expAt f g lF k := ⟨_, rfl⟩
              have HE := hid ((HSX.out k (Nat.le_refl _) hlt).trans (congrArg some hex.symm))
              have HEX := hid hex; clear hex
              have Hfate := hid hfate; clear hfate
              go_upto_if 63 with (fail)
              go_cut [10] (fun s10 wx => s10 = .int .i64 (fateOf lF k) ∧ wx = wr)
              case first =>
                by_cases kF : k < nF
                · obtain ⟨bF, oF, hae, hcF, hkl⟩ := ints_get (HF.out.below H3.out.below) kF
                  subst hae
                  have HFA := hid (show fateOf lF k = pick (lF.getD k 0) 3 by unfold fateOf pick; rw [if_pos hkl])
                  generalize lF.getD k 0 = zF at *
                  go_wp2_with (go_at_call 13; refine (pick_any _ 3 _ (by omega) (by omega)).mono ?_; rintro e w9 ⟨rfl, rfl⟩)
                  go_meet
                  exact ⟨by rw [HFA.out], rfl⟩
                · have HFA := hid (show fateOf lF k = 1 by unfold fateOf; rw [if_neg (by have := HF.out.len; simp [ints] at this; omega)])
                  go_wp2_with fail
                  go_meet
                  exact ⟨by rw [HFA.out], rfl⟩
              case rest =>
                obtain ⟨rfl, rfl⟩ := hcut
                go_wp2_with fail
                rw [show (19 : Int) - (k : Int) = ((19 - k : Nat) : Int) by omega]
                refine (read_s p (19 - k) _ [] w _ H3.out (by show _ < sec.length; omega)).mono ?_
                rintro e w5 ⟨a5, n5, c5, rfl, hr5, h5, hb5⟩
                rw [S3_read _ _ _ ex.1 ex.2 HE.out] at hr5 h5 ⊢
                obtain ⟨ee, hee⟩ : ∃ ee : Int, ee = (if ex.2 then (([] : List UInt8), (8 : Int)) else (ex.1, 0)).2 := ⟨_, rfl⟩
                rw [← hee]
                have HR5 := hid hr5; have H6 := hid h5.drop
                have HEE := hid hee
                clear hr5 h5 hb5 hee
                go_upto_region 21 with (fail)
                go_cut [10, 13] (fun s10 s13 wx => s10 = .int .i64 (fateOf lF k) ∧ s13 = .bool true ∧ Grow w5 wx)
                case first =>
                  rcases Hfate.out with h0 | h0 | h0
                  · have hexx : ex = (g k, false) := by rw [HEX.out]; unfold expAt; simp [h0]
                    have hr := HR5.out
                    rw [hexx] at hr
                    simp only [Bool.false_eq_true, if_false] at hr
                    obtain rfl : ee = 0 := by rw [HEE.out, hexx]; rfl
                    have HR := hid hr
                    have H0 := hid h0
                    rw [h0]
                    clear hr hexx h0 HEX HE HEE HR5
                    refine wp_region_each 45 [.eq (.int .i64 0), .eq (.bool true), .eq (.bool true), .eq (.int .i64 0), .eq (.bool true), .eq (.bool true), .eq (.bool true), .eq (.slice a5 n5 c5), .eq (.string ⟨(g k).toArray⟩), .eq (.int .i64 (k : Int)), .eq (.int .i64 (200 + (k : Int))), sSec (g k), .eq (.string ⟨(g k).toArray⟩), .eq (.bool true), .eq (.bool true), .eq (.bool true), .eq undef, .eq undef, .eq undef, .eq undef, .eq undef, .eq undef, .eq undef, .eq undef, .eq undef, .eq undef, .eq undef, .eq undef, .eq undef, .eq undef, .eq undef, .eq (.bool true), .eq (.bool true), .eq undef, .eq undef, .eq undef, .eq undef, .eq undef, .eq undef, .eq undef, .eq undef, .eq undef, .eq undef, .eq undef, .eq (.bool true)] (by kernel_rfl) (by kernel_rfl) (by kernel_rfl) (by kernel_rfl) ?_ ?_
                    · refine each_c (o' := _) ?_ (each_c (o' := _) ?_ (each_c (o' := _) ?_ (each_c (o' := _) ?_ (each_c (o' := _) ?_ (each_c (o' := _) ?_ (each_c (o' := _) ?_ (each_c (o' := _) ?_ (each_c (o' := _) ?_ (each_c (o' := _) ?_ (each_c (o' := _) ?_ (each_c (o' := _) ?_ (each_c (o' := _) ?_ (each_c (o' := _) ?_ (each_c (o' := _) ?_ (each_c (o' := _) ?_ (each_c (o' := _) ?_ (each_c (o' := _) ?_ (each_c (o' := _) ?_ (each_c (o' := _) ?_ (each_c (o' := _) ?_ (each_c (o' := _) ?_ (each_c (o' := _) ?_ (each_c (o' := _) ?_ (each_c (o' := _) ?_ (each_c (o' := _) ?_ (each_c (o' := _) ?_ (each_c (o' := _) ?_ (each_c (o' := _) ?_ (each_c (o' := _) ?_ (each_c (o' := _) ?_ (each_c (o' := _) ?_ (each_c (o' := _) ?_ (each_c (o' := _) ?_ (each_c (o' := _) ?_ (each_c (o' := _) ?_ (each_c (o' := _) ?_ (each_c (o' := _) ?_ (each_c (o' := _) ?_ (each_c (o' := _) ?_ (each_c (o' := _) ?_ (each_c (o' := _) ?_ (each_c (o' := _) ?_ (each_c (o' := _) ?_ (each_c (o' := _) ?_ (each_n)))))))))))))))))))))))))))))))))))))))))))))
                      -- 0: move t10
                      · intro w1 hg A hA
                        have s10 := hA.slot 10 (v := .int .i64 0) (by kernel_rfl) rfl
                        refine does_plain rfl fun K Q' hK => ?_
                        go_simp; exact hK _ _ (Grow.refl _) rfl
                      -- 1: binOp BinOp.eql 3 t76 0:i64 3
                      · intro w1 hg A hA
                        obtain ⟨v0, e0, h0⟩ := hA.dep 0 (d := 76) (by kernel_rfl) (by kernel_rfl) rfl
                        rcases h0 with rfl
                        refine does_plain rfl fun K Q' hK => ?_
                        go_simp; exact hK _ _ (Grow.refl _) rfl
                      -- 2: move t77
                      · intro w1 hg A hA
                        obtain ⟨v1, e1, h1⟩ := hA.dep 1 (d := 77) (by kernel_rfl) (by kernel_rfl) rfl
                        rcases h1 with rfl
                        refine does_plain rfl fun K Q' hK => ?_
                        go_simp; exact hK _ _ (Grow.refl _) rfl
                      -- 3: move t12
                      · intro w1 hg A hA
                        obtain ⟨v2, e2, h2⟩ := hA.dep 2 (d := 78) (by kernel_rfl) (by kernel_rfl) rfl
                        rcases h2 with rfl
                        have s12 := hA.slot 12 (v := .int .i64 0) (by kernel_rfl) rfl
                        refine does_on rfl (by kernel_rfl) e2 fun K Q' hK => ?_
                        clear e2
                        go_simp; exact hK _ _ (Grow.refl _) rfl
                      -- 4: binOp BinOp.eql 25 t79 0:i64 25
                      · intro w1 hg A hA
                        obtain ⟨v3, e3, h3⟩ := hA.dep 3 (d := 79) (by kernel_rfl) (by kernel_rfl) rfl
                        rcases h3 with rfl
                        obtain ⟨v2, e2, h2⟩ := hA.dep 2 (d := 78) (by kernel_rfl) (by kernel_rfl) rfl
                        rcases h2 with rfl
                        refine does_on rfl (by kernel_rfl) e2 fun K Q' hK => ?_
                        clear e2
                        go_simp; exact hK _ _ (Grow.refl _) rfl
                      -- 5: pick t78 t80 false
                      · intro w1 hg A hA
                        obtain ⟨v2, e2, h2⟩ := hA.dep 2 (d := 78) (by kernel_rfl) (by kernel_rfl) rfl
                        rcases h2 with rfl
                        obtain ⟨v4, e4, h4⟩ := hA.dep 4 (d := 80) (by kernel_rfl) (by kernel_rfl) rfl
                        rcases h4 with rfl
                        refine does_plain rfl fun K Q' hK => ?_
                        go_simp; exact hK _ _ (Grow.refl _) rfl
                      -- 6: move t81
                      · intro w1 hg A hA
                        obtain ⟨v5, e5, h5⟩ := hA.dep 5 (d := 81) (by kernel_rfl) (by kernel_rfl) rfl
                        rcases h5 with rfl
                        refine does_plain rfl fun K Q' hK => ?_
                        go_simp; exact hK _ _ (Grow.refl _) rfl
                      -- 7: move t11
                      · intro w1 hg A hA
                        obtain ⟨v6, e6, h6⟩ := hA.dep 6 (d := 82) (by kernel_rfl) (by kernel_rfl) rfl
                        rcases h6 with rfl
                        have s11 := hA.slot 11 (v := .slice a5 n5 c5) (by kernel_rfl) rfl
                        refine does_on rfl (by kernel_rfl) e6 fun K Q' hK => ?_
                        clear e6
                        go_simp; exact hK _ _ (Grow.refl _) rfl
                      -- 8: convert 30 9 t83
                      · intro w1 hg A hA
                        obtain ⟨v7, e7, h7⟩ := hA.dep 7 (d := 83) (by kernel_rfl) (by kernel_rfl) rfl
                        rcases h7 with rfl
                        obtain ⟨v6, e6, h6⟩ := hA.dep 6 (d := 82) (by kernel_rfl) (by kernel_rfl) rfl
                        rcases h6 with rfl
                        refine does_on rfl (by kernel_rfl) e6 fun K Q' hK => ?_
                        clear e6
                        have s := str_of 30 9 5 Try.underlying30 Try.underlying5 Try.underlying9 (HR.out.below hg) c5
                        go_simp; exact hK _ _ (Grow.refl _) rfl
                      -- 9: move t9
                      · intro w1 hg A hA
                        obtain ⟨v6, e6, h6⟩ := hA.dep 6 (d := 82) (by kernel_rfl) (by kernel_rfl) rfl
                        rcases h6 with rfl
                        have s9 := hA.slot 9 (v := .int .i64 (k : Int)) (by kernel_rfl) rfl
                        refine does_on rfl (by kernel_rfl) e6 fun K Q' hK => ?_
                        clear e6
                        go_simp; exact hK _ _ (Grow.refl _) rfl
                      -- 10: binOp BinOp.add 3 200:i64 t85 3
                      · intro w1 hg A hA
                        obtain ⟨v9, e9, h9⟩ := hA.dep 9 (d := 85) (by kernel_rfl) (by kernel_rfl) rfl
                        rcases h9 with rfl
                        obtain ⟨v6, e6, h6⟩ := hA.dep 6 (d := 82) (by kernel_rfl) (by kernel_rfl) rfl
                        rcases h6 with rfl
                        refine does_on rfl (by kernel_rfl) e6 fun K Q' hK => ?_
                        clear e6
                        have hs : IntKind.i64.wrap (200 + (k : Int)) = 200 + (k : Int) := IntWalk.i64_in _ (by omega)
                        go_simp; exact hK _ _ (Grow.refl _) rfl
                      -- 11: call fn10<locksmithlaw3.sector> [t86] T[3]
                      · intro w1 hg A hA
                        obtain ⟨v10, e10, h10⟩ := hA.dep 10 (d := 86) (by kernel_rfl) (by kernel_rfl) rfl
                        rcases h10 with rfl
                        obtain ⟨v6, e6, h6⟩ := hA.dep 6 (d := 82) (by kernel_rfl) (by kernel_rfl) rfl
                        rcases h6 with rfl
                        refine does_on rfl (by kernel_rfl) e6 fun K Q' hK => ?_
                        clear e6
                        go_simp
                        refine (sector_any _ _).mono ?_; rintro e u ⟨b, d, rfl, ho, hb⟩; rw [show handBytes 64 (200 + (k : Int)) = g k by rw [Hg.out]] at ho; refine hK _ _ hb ⟨b, d, rfl, RdB.of_own ho⟩
                      -- 12: convert 30 9 t87
                      · intro w1 hg A hA
                        obtain ⟨v11, e11, h11⟩ := hA.dep 11 (d := 87) (by kernel_rfl) (by kernel_rfl) rfl
                        obtain ⟨v6, e6, h6⟩ := hA.dep 6 (d := 82) (by kernel_rfl) (by kernel_rfl) rfl
                        rcases h6 with rfl
                        refine does_on rfl (by kernel_rfl) e6 fun K Q' hK => ?_
                        clear e6
                        obtain ⟨b, d, rfl, hr⟩ := h11
                        have s := str_of 30 9 5 Try.underlying30 Try.underlying5 Try.underlying9 hr d
                        go_simp; exact hK _ _ (Grow.refl _) rfl
                      -- 13: binOp BinOp.eql 9 t84 t88 9
                      · intro w1 hg A hA
                        obtain ⟨v8, e8, h8⟩ := hA.dep 8 (d := 84) (by kernel_rfl) (by kernel_rfl) rfl
                        rcases h8 with rfl
                        obtain ⟨v12, e12, h12⟩ := hA.dep 12 (d := 88) (by kernel_rfl) (by kernel_rfl) rfl
                        rcases h12 with rfl
                        obtain ⟨v6, e6, h6⟩ := hA.dep 6 (d := 82) (by kernel_rfl) (by kernel_rfl) rfl
                        rcases h6 with rfl
                        refine does_on rfl (by kernel_rfl) e6 fun K Q' hK => ?_
                        clear e6
                        go_simp; exact hK _ _ (Grow.refl _) rfl
                      -- 14: pick t82 t89 false
                      · intro w1 hg A hA
                        obtain ⟨v6, e6, h6⟩ := hA.dep 6 (d := 82) (by kernel_rfl) (by kernel_rfl) rfl
                        rcases h6 with rfl
                        obtain ⟨v13, e13, h13⟩ := hA.dep 13 (d := 89) (by kernel_rfl) (by kernel_rfl) rfl
                        rcases h13 with rfl
                        refine does_plain rfl fun K Q' hK => ?_
                        go_simp; exact hK _ _ (Grow.refl _) rfl
                      -- 15: move t90
                      · intro w1 hg A hA
                        obtain ⟨v14, e14, h14⟩ := hA.dep 14 (d := 90) (by kernel_rfl) (by kernel_rfl) rfl
                        rcases h14 with rfl
                        refine does_plain rfl fun K Q' hK => ?_
                        go_simp; exact hK _ _ (Grow.refl _) rfl
                      -- 16: move t10
                      · intro w1 hg A hA
                        obtain ⟨v15, e15, h15⟩ := hA.dep 15 (d := 91) (by kernel_rfl) (by kernel_rfl) rfl
                        rcases h15 with rfl
                        exact does_off rfl (by kernel_rfl) e15 ne_tf (Grow.refl _) rfl
                      -- 17: binOp BinOp.eql 3 t92 1:i64 3
                      · intro w1 hg A hA
                        obtain ⟨v15, e15, h15⟩ := hA.dep 15 (d := 91) (by kernel_rfl) (by kernel_rfl) rfl
                        rcases h15 with rfl
                        exact does_off rfl (by kernel_rfl) e15 ne_tf (Grow.refl _) rfl
                      -- 18: move t93
                      · intro w1 hg A hA
                        obtain ⟨v15, e15, h15⟩ := hA.dep 15 (d := 91) (by kernel_rfl) (by kernel_rfl) rfl
                        rcases h15 with rfl
                        exact does_off rfl (by kernel_rfl) e15 ne_tf (Grow.refl _) rfl
                      -- 19: move t12
                      · intro w1 hg A hA
                        obtain ⟨v18, e18, h18⟩ := hA.dep 18 (d := 94) (by kernel_rfl) (by kernel_rfl) rfl
                        rcases h18 with rfl
                        exact does_off rfl (by kernel_rfl) e18 (ne_un _) (Grow.refl _) rfl
                      -- 20: binOp BinOp.eql 25 t95 0:i64 25
                      · intro w1 hg A hA
                        obtain ⟨v18, e18, h18⟩ := hA.dep 18 (d := 94) (by kernel_rfl) (by kernel_rfl) rfl
                        rcases h18 with rfl
                        exact does_off rfl (by kernel_rfl) e18 (ne_un _) (Grow.refl _) rfl
                      -- 21: pick t94 t96 false
                      · intro w1 hg A hA
                        obtain ⟨v15, e15, h15⟩ := hA.dep 15 (d := 91) (by kernel_rfl) (by kernel_rfl) rfl
                        rcases h15 with rfl
                        exact does_off rfl (by kernel_rfl) e15 ne_tf (Grow.refl _) rfl
                      -- 22: move t97
                      · intro w1 hg A hA
                        obtain ⟨v15, e15, h15⟩ := hA.dep 15 (d := 91) (by kernel_rfl) (by kernel_rfl) rfl
                        rcases h15 with rfl
                        exact does_off rfl (by kernel_rfl) e15 ne_tf (Grow.refl _) rfl
                      -- 23: move t11
                      · intro w1 hg A hA
                        obtain ⟨v22, e22, h22⟩ := hA.dep 22 (d := 98) (by kernel_rfl) (by kernel_rfl) rfl
                        rcases h22 with rfl
                        exact does_off rfl (by kernel_rfl) e22 (ne_un _) (Grow.refl _) rfl
                      -- 24: convert 30 9 t99
                      · intro w1 hg A hA
                        obtain ⟨v22, e22, h22⟩ := hA.dep 22 (d := 98) (by kernel_rfl) (by kernel_rfl) rfl
                        rcases h22 with rfl
                        exact does_off rfl (by kernel_rfl) e22 (ne_un _) (Grow.refl _) rfl
                      -- 25: move t9
                      · intro w1 hg A hA
                        obtain ⟨v22, e22, h22⟩ := hA.dep 22 (d := 98) (by kernel_rfl) (by kernel_rfl) rfl
                        rcases h22 with rfl
                        exact does_off rfl (by kernel_rfl) e22 (ne_un _) (Grow.refl _) rfl
                      -- 26: binOp BinOp.sub 3 119:i64 t101 3
                      · intro w1 hg A hA
                        obtain ⟨v22, e22, h22⟩ := hA.dep 22 (d := 98) (by kernel_rfl) (by kernel_rfl) rfl
                        rcases h22 with rfl
                        exact does_off rfl (by kernel_rfl) e22 (ne_un _) (Grow.refl _) rfl
                      -- 27: call fn10<locksmithlaw3.sector> [t102] T[3]
                      · intro w1 hg A hA
                        obtain ⟨v22, e22, h22⟩ := hA.dep 22 (d := 98) (by kernel_rfl) (by kernel_rfl) rfl
                        rcases h22 with rfl
                        exact does_off rfl (by kernel_rfl) e22 (ne_un _) (Grow.refl _) rfl
                      -- 28: convert 30 9 t103
                      · intro w1 hg A hA
                        obtain ⟨v22, e22, h22⟩ := hA.dep 22 (d := 98) (by kernel_rfl) (by kernel_rfl) rfl
                        rcases h22 with rfl
                        exact does_off rfl (by kernel_rfl) e22 (ne_un _) (Grow.refl _) rfl
                      -- 29: binOp BinOp.eql 9 t100 t104 9
                      · intro w1 hg A hA
                        obtain ⟨v22, e22, h22⟩ := hA.dep 22 (d := 98) (by kernel_rfl) (by kernel_rfl) rfl
                        rcases h22 with rfl
                        exact does_off rfl (by kernel_rfl) e22 (ne_un _) (Grow.refl _) rfl
                      -- 30: pick t98 t105 false
                      · intro w1 hg A hA
                        obtain ⟨v15, e15, h15⟩ := hA.dep 15 (d := 91) (by kernel_rfl) (by kernel_rfl) rfl
                        rcases h15 with rfl
                        exact does_off rfl (by kernel_rfl) e15 ne_tf (Grow.refl _) rfl
                      -- 31: pick t91 true t106
                      · intro w1 hg A hA
                        obtain ⟨v15, e15, h15⟩ := hA.dep 15 (d := 91) (by kernel_rfl) (by kernel_rfl) rfl
                        rcases h15 with rfl
                        obtain ⟨v30, e30, h30⟩ := hA.dep 30 (d := 106) (by kernel_rfl) (by kernel_rfl) rfl
                        rcases h30 with rfl
                        refine does_plain rfl fun K Q' hK => ?_
                        go_simp; exact hK _ _ (Grow.refl _) rfl
                      -- 32: move t107
                      · intro w1 hg A hA
                        obtain ⟨v31, e31, h31⟩ := hA.dep 31 (d := 107) (by kernel_rfl) (by kernel_rfl) rfl
                        rcases h31 with rfl
                        refine does_plain rfl fun K Q' hK => ?_
                        go_simp; exact hK _ _ (Grow.refl _) rfl
                      -- 33: move t10
                      · intro w1 hg A hA
                        obtain ⟨v32, e32, h32⟩ := hA.dep 32 (d := 108) (by kernel_rfl) (by kernel_rfl) rfl
                        rcases h32 with rfl
                        exact does_off rfl (by kernel_rfl) e32 ne_tf (Grow.refl _) rfl
                      -- 34: binOp BinOp.eql 3 t109 2:i64 3
                      · intro w1 hg A hA
                        obtain ⟨v32, e32, h32⟩ := hA.dep 32 (d := 108) (by kernel_rfl) (by kernel_rfl) rfl
                        rcases h32 with rfl
                        exact does_off rfl (by kernel_rfl) e32 ne_tf (Grow.refl _) rfl
                      -- 35: move t110
                      · intro w1 hg A hA
                        obtain ⟨v32, e32, h32⟩ := hA.dep 32 (d := 108) (by kernel_rfl) (by kernel_rfl) rfl
                        rcases h32 with rfl
                        exact does_off rfl (by kernel_rfl) e32 ne_tf (Grow.refl _) rfl
                      -- 36: move t12
                      · intro w1 hg A hA
                        obtain ⟨v35, e35, h35⟩ := hA.dep 35 (d := 111) (by kernel_rfl) (by kernel_rfl) rfl
                        rcases h35 with rfl
                        exact does_off rfl (by kernel_rfl) e35 (ne_un _) (Grow.refl _) rfl
                      -- 37: binOp BinOp.eql 25 t112 8:i64 25
                      · intro w1 hg A hA
                        obtain ⟨v35, e35, h35⟩ := hA.dep 35 (d := 111) (by kernel_rfl) (by kernel_rfl) rfl
                        rcases h35 with rfl
                        exact does_off rfl (by kernel_rfl) e35 (ne_un _) (Grow.refl _) rfl
                      -- 38: pick t111 t113 false
                      · intro w1 hg A hA
                        obtain ⟨v32, e32, h32⟩ := hA.dep 32 (d := 108) (by kernel_rfl) (by kernel_rfl) rfl
                        rcases h32 with rfl
                        exact does_off rfl (by kernel_rfl) e32 ne_tf (Grow.refl _) rfl
                      -- 39: move t114
                      · intro w1 hg A hA
                        obtain ⟨v32, e32, h32⟩ := hA.dep 32 (d := 108) (by kernel_rfl) (by kernel_rfl) rfl
                        rcases h32 with rfl
                        exact does_off rfl (by kernel_rfl) e32 ne_tf (Grow.refl _) rfl
                      -- 40: move t11
                      · intro w1 hg A hA
                        obtain ⟨v39, e39, h39⟩ := hA.dep 39 (d := 115) (by kernel_rfl) (by kernel_rfl) rfl
                        rcases h39 with rfl
                        exact does_off rfl (by kernel_rfl) e39 (ne_un _) (Grow.refl _) rfl
                      -- 41: call len [t116] T[30]
                      · intro w1 hg A hA
                        obtain ⟨v39, e39, h39⟩ := hA.dep 39 (d := 115) (by kernel_rfl) (by kernel_rfl) rfl
                        rcases h39 with rfl
                        exact does_off rfl (by kernel_rfl) e39 (ne_un _) (Grow.refl _) rfl
                      -- 42: binOp BinOp.eql 3 t117 0:i64 3
                      · intro w1 hg A hA
                        obtain ⟨v39, e39, h39⟩ := hA.dep 39 (d := 115) (by kernel_rfl) (by kernel_rfl) rfl
                        rcases h39 with rfl
                        exact does_off rfl (by kernel_rfl) e39 (ne_un _) (Grow.refl _) rfl
                      -- 43: pick t115 t118 false
                      · intro w1 hg A hA
                        obtain ⟨v32, e32, h32⟩ := hA.dep 32 (d := 108) (by kernel_rfl) (by kernel_rfl) rfl
                        rcases h32 with rfl
                        exact does_off rfl (by kernel_rfl) e32 ne_tf (Grow.refl _) rfl
                      -- 44: pick t108 true t119
                      · intro w1 hg A hA
                        obtain ⟨v32, e32, h32⟩ := hA.dep 32 (d := 108) (by kernel_rfl) (by kernel_rfl) rfl
                        rcases h32 with rfl
                        obtain ⟨v43, e43, h43⟩ := hA.dep 43 (d := 119) (by kernel_rfl) (by kernel_rfl) rfl
                        rcases h43 with rfl
                        refine does_plain rfl fun K Q' hK => ?_
                        go_simp; exact hK _ _ (Grow.refl _) rfl
                    intro w1 hg
                    refine upon_w' (js := [0, 1, 2, 3, 4, 5, 6, 7, 8, 9, 10, 11, 12, 13, 14, 15, 16, 17, 18, 19, 20, 21, 22, 23, 24, 25, 26, 27, 28, 29, 30, 31, 32, 33, 34, 35, 36, 37, 38, 39, 40, 41, 42, 43, 44]) (by rfl) ?_
                    refine upon_c (x := some 76) (by kernel_rfl) rfl fun v0 h0 => ?_
                    rcases h0 with rfl
                    refine upon_c (x := some 77) (by kernel_rfl) rfl fun v1 h1 => ?_
                    rcases h1 with rfl
                    refine upon_c (x := some 78) (by kernel_rfl) rfl fun v2 h2 => ?_
                    rcases h2 with rfl
                    refine upon_c (x := some 79) (by kernel_rfl) rfl fun v3 h3 => ?_
                    rcases h3 with rfl
                    refine upon_c (x := some 80) (by kernel_rfl) rfl fun v4 h4 => ?_
                    rcases h4 with rfl
                    refine upon_c (x := some 81) (by kernel_rfl) rfl fun v5 h5 => ?_
                    rcases h5 with rfl
                    refine upon_c (x := some 82) (by kernel_rfl) rfl fun v6 h6 => ?_
                    rcases h6 with rfl
                    refine upon_c (x := some 83) (by kernel_rfl) rfl fun v7 h7 => ?_
                    rcases h7 with rfl
                    refine upon_c (x := some 84) (by kernel_rfl) rfl fun v8 h8 => ?_
                    rcases h8 with rfl
                    refine upon_c (x := some 85) (by kernel_rfl) rfl fun v9 h9 => ?_
                    rcases h9 with rfl
                    refine upon_c (x := some 86) (by kernel_rfl) rfl fun v10 h10 => ?_
                    rcases h10 with rfl
                    refine upon_c (x := some 87) (by kernel_rfl) rfl fun v11 h11 => ?_
                    refine upon_c (x := some 88) (by kernel_rfl) rfl fun v12 h12 => ?_
                    rcases h12 with rfl
                    refine upon_c (x := some 89) (by kernel_rfl) rfl fun v13 h13 => ?_
                    rcases h13 with rfl
                    refine upon_c (x := some 90) (by kernel_rfl) rfl fun v14 h14 => ?_
                    rcases h14 with rfl
                    refine upon_c (x := some 91) (by kernel_rfl) rfl fun v15 h15 => ?_
                    rcases h15 with rfl
                    refine upon_c (x := some 92) (by kernel_rfl) rfl fun v16 h16 => ?_
                    rcases h16 with rfl
                    refine upon_c (x := some 93) (by kernel_rfl) rfl fun v17 h17 => ?_
                    rcases h17 with rfl
                    refine upon_c (x := some 94) (by kernel_rfl) rfl fun v18 h18 => ?_
                    rcases h18 with rfl
                    refine upon_c (x := some 95) (by kernel_rfl) rfl fun v19 h19 => ?_
                    rcases h19 with rfl
                    refine upon_c (x := some 96) (by kernel_rfl) rfl fun v20 h20 => ?_
                    rcases h20 with rfl
                    refine upon_c (x := some 97) (by kernel_rfl) rfl fun v21 h21 => ?_
                    rcases h21 with rfl
                    refine upon_c (x := some 98) (by kernel_rfl) rfl fun v22 h22 => ?_
                    rcases h22 with rfl
                    refine upon_c (x := some 99) (by kernel_rfl) rfl fun v23 h23 => ?_
                    rcases h23 with rfl
                    refine upon_c (x := some 100) (by kernel_rfl) rfl fun v24 h24 => ?_
                    rcases h24 with rfl
                    refine upon_c (x := some 101) (by kernel_rfl) rfl fun v25 h25 => ?_
                    rcases h25 with rfl
                    refine upon_c (x := some 102) (by kernel_rfl) rfl fun v26 h26 => ?_
                    rcases h26 with rfl
                    refine upon_c (x := some 103) (by kernel_rfl) rfl fun v27 h27 => ?_
                    rcases h27 with rfl
                    refine upon_c (x := some 104) (by kernel_rfl) rfl fun v28 h28 => ?_
                    rcases h28 with rfl
                    refine upon_c (x := some 105) (by kernel_rfl) rfl fun v29 h29 => ?_
                    rcases h29 with rfl
                    refine upon_c (x := some 106) (by kernel_rfl) rfl fun v30 h30 => ?_
                    rcases h30 with rfl
                    refine upon_c (x := some 107) (by kernel_rfl) rfl fun v31 h31 => ?_
                    rcases h31 with rfl
                    refine upon_c (x := some 108) (by kernel_rfl) rfl fun v32 h32 => ?_
                    rcases h32 with rfl
                    refine upon_c (x := some 109) (by kernel_rfl) rfl fun v33 h33 => ?_
                    rcases h33 with rfl
                    refine upon_c (x := some 110) (by kernel_rfl) rfl fun v34 h34 => ?_
                    rcases h34 with rfl
                    refine upon_c (x := some 111) (by kernel_rfl) rfl fun v35 h35 => ?_
                    rcases h35 with rfl
                    refine upon_c (x := some 112) (by kernel_rfl) rfl fun v36 h36 => ?_
                    rcases h36 with rfl
                    refine upon_c (x := some 113) (by kernel_rfl) rfl fun v37 h37 => ?_
                    rcases h37 with rfl
                    refine upon_c (x := some 114) (by kernel_rfl) rfl fun v38 h38 => ?_
                    rcases h38 with rfl
                    refine upon_c (x := some 115) (by kernel_rfl) rfl fun v39 h39 => ?_
                    rcases h39 with rfl
                    refine upon_c (x := some 116) (by kernel_rfl) rfl fun v40 h40 => ?_
                    rcases h40 with rfl
                    refine upon_c (x := some 117) (by kernel_rfl) rfl fun v41 h41 => ?_
                    rcases h41 with rfl
                    refine upon_c (x := some 118) (by kernel_rfl) rfl fun v42 h42 => ?_
                    rcases h42 with rfl
                    refine upon_c (x := some 119) (by kernel_rfl) rfl fun v43 h43 => ?_
                    rcases h43 with rfl
                    refine upon_c (x := some 120) (by kernel_rfl) rfl fun v44 h44 => ?_
                    rcases h44 with rfl
                    refine upon_n ?_
                    go_wp2_with fail
                    go_meet
                    exact ⟨by rw [H0.out], rfl, hg⟩
                  · have hexx : ex = (f (19 - k), false) := by rw [HEX.out]; unfold expAt; simp [h0]
                    have hr := HR5.out
                    rw [hexx] at hr
                    simp only [Bool.false_eq_true, if_false] at hr
                    obtain rfl : ee = 0 := by rw [HEE.out, hexx]; rfl
                    have HR := hid hr
                    have H0 := hid h0
                    rw [h0]
                    clear hr hexx h0 HEX HE HEE HR5
                    refine wp_region_each 45 [.eq (.int .i64 1), .eq (.bool false), .eq (.bool false), .eq undef, .eq undef, .eq (.bool false), .eq (.bool false), .eq undef, .eq undef, .eq undef, .eq undef, .eq undef, .eq undef, .eq undef, .eq (.bool false), .eq (.bool false), .eq (.int .i64 1), .eq (.bool true), .eq (.bool true), .eq (.int .i64 0), .eq (.bool true), .eq (.bool true), .eq (.bool true), .eq (.slice a5 n5 c5), .eq (.string ⟨(f (19 - k)).toArray⟩), .eq (.int .i64 (k : Int)), .eq (.int .i64 (119 - (k : Int))), sSec (f (19 - k)), .eq (.string ⟨(f (19 - k)).toArray⟩), .eq (.bool true), .eq (.bool true), .eq (.bool true), .eq (.bool true), .eq undef, .eq undef, .eq undef, .eq undef, .eq undef, .eq undef, .eq undef, .eq undef, .eq undef, .eq undef, .eq undef, .eq (.bool true)] (by kernel_rfl) (by kernel_rfl) (by kernel_rfl) (by kernel_rfl) ?_ ?_
                    · refine each_c (o' := _) ?_ (each_c (o' := _) ?_ (each_c (o' := _) ?_ (each_c (o' := _) ?_ (each_c (o' := _) ?_ (each_c (o' := _) ?_ (each_c (o' := _) ?_ (each_c (o' := _) ?_ (each_c (o' := _) ?_ (each_c (o' := _) ?_ (each_c (o' := _) ?_ (each_c (o' := _) ?_ (each_c (o' := _) ?_ (each_c (o' := _) ?_ (each_c (o' := _) ?_ (each_c (o' := _) ?_ (each_c (o' := _) ?_ (each_c (o' := _) ?_ (each_c (o' := _) ?_ (each_c (o' := _) ?_ (each_c (o' := _) ?_ (each_c (o' := _) ?_ (each_c (o' := _) ?_ (each_c (o' := _) ?_ (each_c (o' := _) ?_ (each_c (o' := _) ?_ (each_c (o' := _) ?_ (each_c (o' := _) ?_ (each_c (o' := _) ?_ (each_c (o' := _) ?_ (each_c (o' := _) ?_ (each_c (o' := _) ?_ (each_c (o' := _) ?_ (each_c (o' := _) ?_ (each_c (o' := _) ?_ (each_c (o' := _) ?_ (each_c (o' := _) ?_ (each_c (o' := _) ?_ (each_c (o' := _) ?_ (each_c (o' := _) ?_ (each_c (o' := _) ?_ (each_c (o' := _) ?_ (each_c (o' := _) ?_ (each_c (o' := _) ?_ (each_c (o' := _) ?_ (each_n)))))))))))))))))))))))))))))))))))))))))))))
                      -- 0: move t10
                      · intro w1 hg A hA
                        have s10 := hA.slot 10 (v := .int .i64 1) (by kernel_rfl) rfl
                        refine does_plain rfl fun K Q' hK => ?_
                        go_simp; exact hK _ _ (Grow.refl _) rfl
                      -- 1: binOp BinOp.eql 3 t76 0:i64 3
                      · intro w1 hg A hA
                        obtain ⟨v0, e0, h0⟩ := hA.dep 0 (d := 76) (by kernel_rfl) (by kernel_rfl) rfl
                        rcases h0 with rfl
                        refine does_plain rfl fun K Q' hK => ?_
                        go_simp; exact hK _ _ (Grow.refl _) rfl
                      -- 2: move t77
                      · intro w1 hg A hA
                        obtain ⟨v1, e1, h1⟩ := hA.dep 1 (d := 77) (by kernel_rfl) (by kernel_rfl) rfl
                        rcases h1 with rfl
                        refine does_plain rfl fun K Q' hK => ?_
                        go_simp; exact hK _ _ (Grow.refl _) rfl
                      -- 3: move t12
                      · intro w1 hg A hA
                        obtain ⟨v2, e2, h2⟩ := hA.dep 2 (d := 78) (by kernel_rfl) (by kernel_rfl) rfl
                        rcases h2 with rfl
                        exact does_off rfl (by kernel_rfl) e2 ne_ft (Grow.refl _) rfl
                      -- 4: binOp BinOp.eql 25 t79 0:i64 25
                      · intro w1 hg A hA
                        obtain ⟨v2, e2, h2⟩ := hA.dep 2 (d := 78) (by kernel_rfl) (by kernel_rfl) rfl
                        rcases h2 with rfl
                        exact does_off rfl (by kernel_rfl) e2 ne_ft (Grow.refl _) rfl
                      -- 5: pick t78 t80 false
                      · intro w1 hg A hA
                        obtain ⟨v2, e2, h2⟩ := hA.dep 2 (d := 78) (by kernel_rfl) (by kernel_rfl) rfl
                        rcases h2 with rfl
                        obtain ⟨v4, e4, h4⟩ := hA.dep 4 (d := 80) (by kernel_rfl) (by kernel_rfl) rfl
                        rcases h4 with rfl
                        refine does_plain rfl fun K Q' hK => ?_
                        go_simp; exact hK _ _ (Grow.refl _) rfl
                      -- 6: move t81
                      · intro w1 hg A hA
                        obtain ⟨v5, e5, h5⟩ := hA.dep 5 (d := 81) (by kernel_rfl) (by kernel_rfl) rfl
                        rcases h5 with rfl
                        refine does_plain rfl fun K Q' hK => ?_
                        go_simp; exact hK _ _ (Grow.refl _) rfl
                      -- 7: move t11
                      · intro w1 hg A hA
                        obtain ⟨v6, e6, h6⟩ := hA.dep 6 (d := 82) (by kernel_rfl) (by kernel_rfl) rfl
                        rcases h6 with rfl
                        exact does_off rfl (by kernel_rfl) e6 ne_ft (Grow.refl _) rfl
                      -- 8: convert 30 9 t83
                      · intro w1 hg A hA
                        obtain ⟨v6, e6, h6⟩ := hA.dep 6 (d := 82) (by kernel_rfl) (by kernel_rfl) rfl
                        rcases h6 with rfl
                        exact does_off rfl (by kernel_rfl) e6 ne_ft (Grow.refl _) rfl
                      -- 9: move t9
                      · intro w1 hg A hA
                        obtain ⟨v6, e6, h6⟩ := hA.dep 6 (d := 82) (by kernel_rfl) (by kernel_rfl) rfl
                        rcases h6 with rfl
                        exact does_off rfl (by kernel_rfl) e6 ne_ft (Grow.refl _) rfl
                      -- 10: binOp BinOp.add 3 200:i64 t85 3
                      · intro w1 hg A hA
                        obtain ⟨v6, e6, h6⟩ := hA.dep 6 (d := 82) (by kernel_rfl) (by kernel_rfl) rfl
                        rcases h6 with rfl
                        exact does_off rfl (by kernel_rfl) e6 ne_ft (Grow.refl _) rfl
                      -- 11: call fn10<locksmithlaw3.sector> [t86] T[3]
                      · intro w1 hg A hA
                        obtain ⟨v6, e6, h6⟩ := hA.dep 6 (d := 82) (by kernel_rfl) (by kernel_rfl) rfl
                        rcases h6 with rfl
                        exact does_off rfl (by kernel_rfl) e6 ne_ft (Grow.refl _) rfl
                      -- 12: convert 30 9 t87
                      · intro w1 hg A hA
                        obtain ⟨v6, e6, h6⟩ := hA.dep 6 (d := 82) (by kernel_rfl) (by kernel_rfl) rfl
                        rcases h6 with rfl
                        exact does_off rfl (by kernel_rfl) e6 ne_ft (Grow.refl _) rfl
                      -- 13: binOp BinOp.eql 9 t84 t88 9
                      · intro w1 hg A hA
                        obtain ⟨v6, e6, h6⟩ := hA.dep 6 (d := 82) (by kernel_rfl) (by kernel_rfl) rfl
                        rcases h6 with rfl
                        exact does_off rfl (by kernel_rfl) e6 ne_ft (Grow.refl _) rfl
                      -- 14: pick t82 t89 false
                      · intro w1 hg A hA
                        obtain ⟨v6, e6, h6⟩ := hA.dep 6 (d := 82) (by kernel_rfl) (by kernel_rfl) rfl
                        rcases h6 with rfl
                        obtain ⟨v13, e13, h13⟩ := hA.dep 13 (d := 89) (by kernel_rfl) (by kernel_rfl) rfl
                        rcases h13 with rfl
                        refine does_plain rfl fun K Q' hK => ?_
                        go_simp; exact hK _ _ (Grow.refl _) rfl
                      -- 15: move t90
                      · intro w1 hg A hA
                        obtain ⟨v14, e14, h14⟩ := hA.dep 14 (d := 90) (by kernel_rfl) (by kernel_rfl) rfl
                        rcases h14 with rfl
                        refine does_plain rfl fun K Q' hK => ?_
                        go_simp; exact hK _ _ (Grow.refl _) rfl
                      -- 16: move t10
                      · intro w1 hg A hA
                        obtain ⟨v15, e15, h15⟩ := hA.dep 15 (d := 91) (by kernel_rfl) (by kernel_rfl) rfl
                        rcases h15 with rfl
                        have s10 := hA.slot 10 (v := .int .i64 1) (by kernel_rfl) rfl
                        refine does_on rfl (by kernel_rfl) e15 fun K Q' hK => ?_
                        clear e15
                        go_simp; exact hK _ _ (Grow.refl _) rfl
                      -- 17: binOp BinOp.eql 3 t92 1:i64 3
                      · intro w1 hg A hA
                        obtain ⟨v16, e16, h16⟩ := hA.dep 16 (d := 92) (by kernel_rfl) (by kernel_rfl) rfl
                        rcases h16 with rfl
                        obtain ⟨v15, e15, h15⟩ := hA.dep 15 (d := 91) (by kernel_rfl) (by kernel_rfl) rfl
                        rcases h15 with rfl
                        refine does_on rfl (by kernel_rfl) e15 fun K Q' hK => ?_
                        clear e15
                        go_simp; exact hK _ _ (Grow.refl _) rfl
                      -- 18: move t93
                      · intro w1 hg A hA
                        obtain ⟨v17, e17, h17⟩ := hA.dep 17 (d := 93) (by kernel_rfl) (by kernel_rfl) rfl
                        rcases h17 with rfl
                        obtain ⟨v15, e15, h15⟩ := hA.dep 15 (d := 91) (by kernel_rfl) (by kernel_rfl) rfl
                        rcases h15 with rfl
                        refine does_on rfl (by kernel_rfl) e15 fun K Q' hK => ?_
                        clear e15
                        go_simp; exact hK _ _ (Grow.refl _) rfl
                      -- 19: move t12
                      · intro w1 hg A hA
                        obtain ⟨v18, e18, h18⟩ := hA.dep 18 (d := 94) (by kernel_rfl) (by kernel_rfl) rfl
                        rcases h18 with rfl
                        have s12 := hA.slot 12 (v := .int .i64 0) (by kernel_rfl) rfl
                        refine does_on rfl (by kernel_rfl) e18 fun K Q' hK => ?_
                        clear e18
                        go_simp; exact hK _ _ (Grow.refl _) rfl
                      -- 20: binOp BinOp.eql 25 t95 0:i64 25
                      · intro w1 hg A hA
                        obtain ⟨v19, e19, h19⟩ := hA.dep 19 (d := 95) (by kernel_rfl) (by kernel_rfl) rfl
                        rcases h19 with rfl
                        obtain ⟨v18, e18, h18⟩ := hA.dep 18 (d := 94) (by kernel_rfl) (by kernel_rfl) rfl
                        rcases h18 with rfl
                        refine does_on rfl (by kernel_rfl) e18 fun K Q' hK => ?_
                        clear e18
                        go_simp; exact hK _ _ (Grow.refl _) rfl
                      -- 21: pick t94 t96 false
                      · intro w1 hg A hA
                        obtain ⟨v18, e18, h18⟩ := hA.dep 18 (d := 94) (by kernel_rfl) (by kernel_rfl) rfl
                        rcases h18 with rfl
                        obtain ⟨v20, e20, h20⟩ := hA.dep 20 (d := 96) (by kernel_rfl) (by kernel_rfl) rfl
                        rcases h20 with rfl
                        obtain ⟨v15, e15, h15⟩ := hA.dep 15 (d := 91) (by kernel_rfl) (by kernel_rfl) rfl
                        rcases h15 with rfl
                        refine does_on rfl (by kernel_rfl) e15 fun K Q' hK => ?_
                        clear e15
                        go_simp; exact hK _ _ (Grow.refl _) rfl
                      -- 22: move t97
                      · intro w1 hg A hA
                        obtain ⟨v21, e21, h21⟩ := hA.dep 21 (d := 97) (by kernel_rfl) (by kernel_rfl) rfl
                        rcases h21 with rfl
                        obtain ⟨v15, e15, h15⟩ := hA.dep 15 (d := 91) (by kernel_rfl) (by kernel_rfl) rfl
                        rcases h15 with rfl
                        refine does_on rfl (by kernel_rfl) e15 fun K Q' hK => ?_
                        clear e15
                        go_simp; exact hK _ _ (Grow.refl _) rfl
                      -- 23: move t11
                      · intro w1 hg A hA
                        obtain ⟨v22, e22, h22⟩ := hA.dep 22 (d := 98) (by kernel_rfl) (by kernel_rfl) rfl
                        rcases h22 with rfl
                        have s11 := hA.slot 11 (v := .slice a5 n5 c5) (by kernel_rfl) rfl
                        refine does_on rfl (by kernel_rfl) e22 fun K Q' hK => ?_
                        clear e22
                        go_simp; exact hK _ _ (Grow.refl _) rfl
                      -- 24: convert 30 9 t99
                      · intro w1 hg A hA
                        obtain ⟨v23, e23, h23⟩ := hA.dep 23 (d := 99) (by kernel_rfl) (by kernel_rfl) rfl
                        rcases h23 with rfl
                        obtain ⟨v22, e22, h22⟩ := hA.dep 22 (d := 98) (by kernel_rfl) (by kernel_rfl) rfl
                        rcases h22 with rfl
                        refine does_on rfl (by kernel_rfl) e22 fun K Q' hK => ?_
                        clear e22
                        have s := str_of 30 9 5 Try.underlying30 Try.underlying5 Try.underlying9 (HR.out.below hg) c5
                        go_simp; exact hK _ _ (Grow.refl _) rfl
                      -- 25: move t9
                      · intro w1 hg A hA
                        obtain ⟨v22, e22, h22⟩ := hA.dep 22 (d := 98) (by kernel_rfl) (by kernel_rfl) rfl
                        rcases h22 with rfl
                        have s9 := hA.slot 9 (v := .int .i64 (k : Int)) (by kernel_rfl) rfl
                        refine does_on rfl (by kernel_rfl) e22 fun K Q' hK => ?_
                        clear e22
                        go_simp; exact hK _ _ (Grow.refl _) rfl
                      -- 26: binOp BinOp.sub 3 119:i64 t101 3
                      · intro w1 hg A hA
                        obtain ⟨v25, e25, h25⟩ := hA.dep 25 (d := 101) (by kernel_rfl) (by kernel_rfl) rfl
                        rcases h25 with rfl
                        obtain ⟨v22, e22, h22⟩ := hA.dep 22 (d := 98) (by kernel_rfl) (by kernel_rfl) rfl
                        rcases h22 with rfl
                        refine does_on rfl (by kernel_rfl) e22 fun K Q' hK => ?_
                        clear e22
                        have hs : IntKind.i64.wrap (119 - (k : Int)) = 119 - (k : Int) := IntWalk.i64_in _ (by omega)
                        go_simp; exact hK _ _ (Grow.refl _) rfl
                      -- 27: call fn10<locksmithlaw3.sector> [t102] T[3]
                      · intro w1 hg A hA
                        obtain ⟨v26, e26, h26⟩ := hA.dep 26 (d := 102) (by kernel_rfl) (by kernel_rfl) rfl
                        rcases h26 with rfl
                        obtain ⟨v22, e22, h22⟩ := hA.dep 22 (d := 98) (by kernel_rfl) (by kernel_rfl) rfl
                        rcases h22 with rfl
                        refine does_on rfl (by kernel_rfl) e22 fun K Q' hK => ?_
                        clear e22
                        go_simp
                        refine (sector_any _ _).mono ?_; rintro e u ⟨b, d, rfl, ho, hb⟩; rw [show handBytes 64 (119 - (k : Int)) = f (19 - k) by rw [Hf.out]; congr 1; omega] at ho; refine hK _ _ hb ⟨b, d, rfl, RdB.of_own ho⟩
                      -- 28: convert 30 9 t103
                      · intro w1 hg A hA
                        obtain ⟨v27, e27, h27⟩ := hA.dep 27 (d := 103) (by kernel_rfl) (by kernel_rfl) rfl
                        obtain ⟨v22, e22, h22⟩ := hA.dep 22 (d := 98) (by kernel_rfl) (by kernel_rfl) rfl
                        rcases h22 with rfl
                        refine does_on rfl (by kernel_rfl) e22 fun K Q' hK => ?_
                        clear e22
                        obtain ⟨b, d, rfl, hr⟩ := h27
                        have s := str_of 30 9 5 Try.underlying30 Try.underlying5 Try.underlying9 hr d
                        go_simp; exact hK _ _ (Grow.refl _) rfl
                      -- 29: binOp BinOp.eql 9 t100 t104 9
                      · intro w1 hg A hA
                        obtain ⟨v24, e24, h24⟩ := hA.dep 24 (d := 100) (by kernel_rfl) (by kernel_rfl) rfl
                        rcases h24 with rfl
                        obtain ⟨v28, e28, h28⟩ := hA.dep 28 (d := 104) (by kernel_rfl) (by kernel_rfl) rfl
                        rcases h28 with rfl
                        obtain ⟨v22, e22, h22⟩ := hA.dep 22 (d := 98) (by kernel_rfl) (by kernel_rfl) rfl
                        rcases h22 with rfl
                        refine does_on rfl (by kernel_rfl) e22 fun K Q' hK => ?_
                        clear e22
                        go_simp; exact hK _ _ (Grow.refl _) rfl
                      -- 30: pick t98 t105 false
                      · intro w1 hg A hA
                        obtain ⟨v22, e22, h22⟩ := hA.dep 22 (d := 98) (by kernel_rfl) (by kernel_rfl) rfl
                        rcases h22 with rfl
                        obtain ⟨v29, e29, h29⟩ := hA.dep 29 (d := 105) (by kernel_rfl) (by kernel_rfl) rfl
                        rcases h29 with rfl
                        obtain ⟨v15, e15, h15⟩ := hA.dep 15 (d := 91) (by kernel_rfl) (by kernel_rfl) rfl
                        rcases h15 with rfl
                        refine does_on rfl (by kernel_rfl) e15 fun K Q' hK => ?_
                        clear e15
                        go_simp; exact hK _ _ (Grow.refl _) rfl
                      -- 31: pick t91 true t106
                      · intro w1 hg A hA
                        obtain ⟨v15, e15, h15⟩ := hA.dep 15 (d := 91) (by kernel_rfl) (by kernel_rfl) rfl
                        rcases h15 with rfl
                        obtain ⟨v30, e30, h30⟩ := hA.dep 30 (d := 106) (by kernel_rfl) (by kernel_rfl) rfl
                        rcases h30 with rfl
                        refine does_plain rfl fun K Q' hK => ?_
                        go_simp; exact hK _ _ (Grow.refl _) rfl
                      -- 32: move t107
                      · intro w1 hg A hA
                        obtain ⟨v31, e31, h31⟩ := hA.dep 31 (d := 107) (by kernel_rfl) (by kernel_rfl) rfl
                        rcases h31 with rfl
                        refine does_plain rfl fun K Q' hK => ?_
                        go_simp; exact hK _ _ (Grow.refl _) rfl
                      -- 33: move t10
                      · intro w1 hg A hA
                        obtain ⟨v32, e32, h32⟩ := hA.dep 32 (d := 108) (by kernel_rfl) (by kernel_rfl) rfl
                        rcases h32 with rfl
                        exact does_off rfl (by kernel_rfl) e32 ne_tf (Grow.refl _) rfl
                      -- 34: binOp BinOp.eql 3 t109 2:i64 3
                      · intro w1 hg A hA
                        obtain ⟨v32, e32, h32⟩ := hA.dep 32 (d := 108) (by kernel_rfl) (by kernel_rfl) rfl
                        rcases h32 with rfl
                        exact does_off rfl (by kernel_rfl) e32 ne_tf (Grow.refl _) rfl
                      -- 35: move t110
                      · intro w1 hg A hA
                        obtain ⟨v32, e32, h32⟩ := hA.dep 32 (d := 108) (by kernel_rfl) (by kernel_rfl) rfl
                        rcases h32 with rfl
                        exact does_off rfl (by kernel_rfl) e32 ne_tf (Grow.refl _) rfl
                      -- 36: move t12
                      · intro w1 hg A hA
                        obtain ⟨v35, e35, h35⟩ := hA.dep 35 (d := 111) (by kernel_rfl) (by kernel_rfl) rfl
                        rcases h35 with rfl
                        exact does_off rfl (by kernel_rfl) e35 (ne_un _) (Grow.refl _) rfl
                      -- 37: binOp BinOp.eql 25 t112 8:i64 25
                      · intro w1 hg A hA
                        obtain ⟨v35, e35, h35⟩ := hA.dep 35 (d := 111) (by kernel_rfl) (by kernel_rfl) rfl
                        rcases h35 with rfl
                        exact does_off rfl (by kernel_rfl) e35 (ne_un _) (Grow.refl _) rfl
                      -- 38: pick t111 t113 false
                      · intro w1 hg A hA
                        obtain ⟨v32, e32, h32⟩ := hA.dep 32 (d := 108) (by kernel_rfl) (by kernel_rfl) rfl
                        rcases h32 with rfl
                        exact does_off rfl (by kernel_rfl) e32 ne_tf (Grow.refl _) rfl
                      -- 39: move t114
                      · intro w1 hg A hA
                        obtain ⟨v32, e32, h32⟩ := hA.dep 32 (d := 108) (by kernel_rfl) (by kernel_rfl) rfl
                        rcases h32 with rfl
                        exact does_off rfl (by kernel_rfl) e32 ne_tf (Grow.refl _) rfl
                      -- 40: move t11
                      · intro w1 hg A hA
                        obtain ⟨v39, e39, h39⟩ := hA.dep 39 (d := 115) (by kernel_rfl) (by kernel_rfl) rfl
                        rcases h39 with rfl
                        exact does_off rfl (by kernel_rfl) e39 (ne_un _) (Grow.refl _) rfl
                      -- 41: call len [t116] T[30]
                      · intro w1 hg A hA
                        obtain ⟨v39, e39, h39⟩ := hA.dep 39 (d := 115) (by kernel_rfl) (by kernel_rfl) rfl
                        rcases h39 with rfl
                        exact does_off rfl (by kernel_rfl) e39 (ne_un _) (Grow.refl _) rfl
                      -- 42: binOp BinOp.eql 3 t117 0:i64 3
                      · intro w1 hg A hA
                        obtain ⟨v39, e39, h39⟩ := hA.dep 39 (d := 115) (by kernel_rfl) (by kernel_rfl) rfl
                        rcases h39 with rfl
                        exact does_off rfl (by kernel_rfl) e39 (ne_un _) (Grow.refl _) rfl
                      -- 43: pick t115 t118 false
                      · intro w1 hg A hA
                        obtain ⟨v32, e32, h32⟩ := hA.dep 32 (d := 108) (by kernel_rfl) (by kernel_rfl) rfl
                        rcases h32 with rfl
                        exact does_off rfl (by kernel_rfl) e32 ne_tf (Grow.refl _) rfl
                      -- 44: pick t108 true t119
                      · intro w1 hg A hA
                        obtain ⟨v32, e32, h32⟩ := hA.dep 32 (d := 108) (by kernel_rfl) (by kernel_rfl) rfl
                        rcases h32 with rfl
                        obtain ⟨v43, e43, h43⟩ := hA.dep 43 (d := 119) (by kernel_rfl) (by kernel_rfl) rfl
                        rcases h43 with rfl
                        refine does_plain rfl fun K Q' hK => ?_
                        go_simp; exact hK _ _ (Grow.refl _) rfl
                    intro w1 hg
                    refine upon_w' (js := [0, 1, 2, 3, 4, 5, 6, 7, 8, 9, 10, 11, 12, 13, 14, 15, 16, 17, 18, 19, 20, 21, 22, 23, 24, 25, 26, 27, 28, 29, 30, 31, 32, 33, 34, 35, 36, 37, 38, 39, 40, 41, 42, 43, 44]) (by rfl) ?_
                    refine upon_c (x := some 76) (by kernel_rfl) rfl fun v0 h0 => ?_
                    rcases h0 with rfl
                    refine upon_c (x := some 77) (by kernel_rfl) rfl fun v1 h1 => ?_
                    rcases h1 with rfl
                    refine upon_c (x := some 78) (by kernel_rfl) rfl fun v2 h2 => ?_
                    rcases h2 with rfl
                    refine upon_c (x := some 79) (by kernel_rfl) rfl fun v3 h3 => ?_
                    rcases h3 with rfl
                    refine upon_c (x := some 80) (by kernel_rfl) rfl fun v4 h4 => ?_
                    rcases h4 with rfl
                    refine upon_c (x := some 81) (by kernel_rfl) rfl fun v5 h5 => ?_
                    rcases h5 with rfl
                    refine upon_c (x := some 82) (by kernel_rfl) rfl fun v6 h6 => ?_
                    rcases h6 with rfl
                    refine upon_c (x := some 83) (by kernel_rfl) rfl fun v7 h7 => ?_
                    rcases h7 with rfl
                    refine upon_c (x := some 84) (by kernel_rfl) rfl fun v8 h8 => ?_
                    rcases h8 with rfl
                    refine upon_c (x := some 85) (by kernel_rfl) rfl fun v9 h9 => ?_
                    rcases h9 with rfl
                    refine upon_c (x := some 86) (by kernel_rfl) rfl fun v10 h10 => ?_
                    rcases h10 with rfl
                    refine upon_c (x := some 87) (by kernel_rfl) rfl fun v11 h11 => ?_
                    rcases h11 with rfl
                    refine upon_c (x := some 88) (by kernel_rfl) rfl fun v12 h12 => ?_
                    rcases h12 with rfl
                    refine upon_c (x := some 89) (by kernel_rfl) rfl fun v13 h13 => ?_
                    rcases h13 with rfl
                    refine upon_c (x := some 90) (by kernel_rfl) rfl fun v14 h14 => ?_
                    rcases h14 with rfl
                    refine upon_c (x := some 91) (by kernel_rfl) rfl fun v15 h15 => ?_
                    rcases h15 with rfl
                    refine upon_c (x := some 92) (by kernel_rfl) rfl fun v16 h16 => ?_
                    rcases h16 with rfl
                    refine upon_c (x := some 93) (by kernel_rfl) rfl fun v17 h17 => ?_
                    rcases h17 with rfl
                    refine upon_c (x := some 94) (by kernel_rfl) rfl fun v18 h18 => ?_
                    rcases h18 with rfl
                    refine upon_c (x := some 95) (by kernel_rfl) rfl fun v19 h19 => ?_
                    rcases h19 with rfl
                    refine upon_c (x := some 96) (by kernel_rfl) rfl fun v20 h20 => ?_
                    rcases h20 with rfl
                    refine upon_c (x := some 97) (by kernel_rfl) rfl fun v21 h21 => ?_
                    rcases h21 with rfl
                    refine upon_c (x := some 98) (by kernel_rfl) rfl fun v22 h22 => ?_
                    rcases h22 with rfl
                    refine upon_c (x := some 99) (by kernel_rfl) rfl fun v23 h23 => ?_
                    rcases h23 with rfl
                    refine upon_c (x := some 100) (by kernel_rfl) rfl fun v24 h24 => ?_
                    rcases h24 with rfl
                    refine upon_c (x := some 101) (by kernel_rfl) rfl fun v25 h25 => ?_
                    rcases h25 with rfl
                    refine upon_c (x := some 102) (by kernel_rfl) rfl fun v26 h26 => ?_
                    rcases h26 with rfl
                    refine upon_c (x := some 103) (by kernel_rfl) rfl fun v27 h27 => ?_
                    refine upon_c (x := some 104) (by kernel_rfl) rfl fun v28 h28 => ?_
                    rcases h28 with rfl
                    refine upon_c (x := some 105) (by kernel_rfl) rfl fun v29 h29 => ?_
                    rcases h29 with rfl
                    refine upon_c (x := some 106) (by kernel_rfl) rfl fun v30 h30 => ?_
                    rcases h30 with rfl
                    refine upon_c (x := some 107) (by kernel_rfl) rfl fun v31 h31 => ?_
                    rcases h31 with rfl
                    refine upon_c (x := some 108) (by kernel_rfl) rfl fun v32 h32 => ?_
                    rcases h32 with rfl
                    refine upon_c (x := some 109) (by kernel_rfl) rfl fun v33 h33 => ?_
                    rcases h33 with rfl
                    refine upon_c (x := some 110) (by kernel_rfl) rfl fun v34 h34 => ?_
                    rcases h34 with rfl
                    refine upon_c (x := some 111) (by kernel_rfl) rfl fun v35 h35 => ?_
                    rcases h35 with rfl
                    refine upon_c (x := some 112) (by kernel_rfl) rfl fun v36 h36 => ?_
                    rcases h36 with rfl
                    refine upon_c (x := some 113) (by kernel_rfl) rfl fun v37 h37 => ?_
                    rcases h37 with rfl
                    refine upon_c (x := some 114) (by kernel_rfl) rfl fun v38 h38 => ?_
                    rcases h38 with rfl
                    refine upon_c (x := some 115) (by kernel_rfl) rfl fun v39 h39 => ?_
                    rcases h39 with rfl
                    refine upon_c (x := some 116) (by kernel_rfl) rfl fun v40 h40 => ?_
                    rcases h40 with rfl
                    refine upon_c (x := some 117) (by kernel_rfl) rfl fun v41 h41 => ?_
                    rcases h41 with rfl
                    refine upon_c (x := some 118) (by kernel_rfl) rfl fun v42 h42 => ?_
                    rcases h42 with rfl
                    refine upon_c (x := some 119) (by kernel_rfl) rfl fun v43 h43 => ?_
                    rcases h43 with rfl
                    refine upon_c (x := some 120) (by kernel_rfl) rfl fun v44 h44 => ?_
                    rcases h44 with rfl
                    refine upon_n ?_
                    go_wp2_with fail
                    go_meet
                    exact ⟨by rw [H0.out], rfl, hg⟩
                  · have hexx : ex = ([], true) := by rw [HEX.out]; unfold expAt; simp [h0]
                    have hr := HR5.out
                    rw [hexx] at hr
                    simp only [if_true] at hr
                    obtain rfl : ee = 8 := by rw [HEE.out, hexx]; rfl
                    obtain rfl : n5 = 0 := hr.len.symm
                    have H0 := hid h0
                    rw [h0]
                    clear hr hexx h0 HEX HE HEE HR5
                    refine wp_region_each 45 [.eq (.int .i64 2), .eq (.bool false), .eq (.bool false), .eq undef, .eq undef, .eq (.bool false), .eq (.bool false), .eq undef, .eq undef, .eq undef, .eq undef, .eq undef, .eq undef, .eq undef, .eq (.bool false), .eq (.bool false), .eq (.int .i64 2), .eq (.bool false), .eq (.bool false), .eq undef, .eq undef, .eq (.bool false), .eq (.bool false), .eq undef, .eq undef, .eq undef, .eq undef, .eq undef, .eq undef, .eq undef, .eq (.bool false), .eq (.bool false), .eq (.bool false), .eq (.int .i64 2), .eq (.bool true), .eq (.bool true), .eq (.int .i64 8), .eq (.bool true), .eq (.bool true), .eq (.bool true), .eq (.slice a5 0 c5), .eq (.int .i64 0), .eq (.bool true), .eq (.bool true), .eq (.bool true)] (by kernel_rfl) (by kernel_rfl) (by kernel_rfl) (by kernel_rfl) ?_ ?_
                    · refine each_c (o' := _) ?_ (each_c (o' := _) ?_ (each_c (o' := _) ?_ (each_c (o' := _) ?_ (each_c (o' := _) ?_ (each_c (o' := _) ?_ (each_c (o' := _) ?_ (each_c (o' := _) ?_ (each_c (o' := _) ?_ (each_c (o' := _) ?_ (each_c (o' := _) ?_ (each_c (o' := _) ?_ (each_c (o' := _) ?_ (each_c (o' := _) ?_ (each_c (o' := _) ?_ (each_c (o' := _) ?_ (each_c (o' := _) ?_ (each_c (o' := _) ?_ (each_c (o' := _) ?_ (each_c (o' := _) ?_ (each_c (o' := _) ?_ (each_c (o' := _) ?_ (each_c (o' := _) ?_ (each_c (o' := _) ?_ (each_c (o' := _) ?_ (each_c (o' := _) ?_ (each_c (o' := _) ?_ (each_c (o' := _) ?_ (each_c (o' := _) ?_ (each_c (o' := _) ?_ (each_c (o' := _) ?_ (each_c (o' := _) ?_ (each_c (o' := _) ?_ (each_c (o' := _) ?_ (each_c (o' := _) ?_ (each_c (o' := _) ?_ (each_c (o' := _) ?_ (each_c (o' := _) ?_ (each_c (o' := _) ?_ (each_c (o' := _) ?_ (each_c (o' := _) ?_ (each_c (o' := _) ?_ (each_c (o' := _) ?_ (each_c (o' := _) ?_ (each_c (o' := _) ?_ (each_n)))))))))))))))))))))))))))))))))))))))))))))
                      -- 0: move t10
                      · intro w1 hg A hA
                        have s10 := hA.slot 10 (v := .int .i64 2) (by kernel_rfl) rfl
                        refine does_plain rfl fun K Q' hK => ?_
                        go_simp; exact hK _ _ (Grow.refl _) rfl
                      -- 1: binOp BinOp.eql 3 t76 0:i64 3
                      · intro w1 hg A hA
                        obtain ⟨v0, e0, h0⟩ := hA.dep 0 (d := 76) (by kernel_rfl) (by kernel_rfl) rfl
                        rcases h0 with rfl
                        refine does_plain rfl fun K Q' hK => ?_
                        go_simp; exact hK _ _ (Grow.refl _) rfl
                      -- 2: move t77
                      · intro w1 hg A hA
                        obtain ⟨v1, e1, h1⟩ := hA.dep 1 (d := 77) (by kernel_rfl) (by kernel_rfl) rfl
                        rcases h1 with rfl
                        refine does_plain rfl fun K Q' hK => ?_
                        go_simp; exact hK _ _ (Grow.refl _) rfl
                      -- 3: move t12
                      · intro w1 hg A hA
                        obtain ⟨v2, e2, h2⟩ := hA.dep 2 (d := 78) (by kernel_rfl) (by kernel_rfl) rfl
                        rcases h2 with rfl
                        exact does_off rfl (by kernel_rfl) e2 ne_ft (Grow.refl _) rfl
                      -- 4: binOp BinOp.eql 25 t79 0:i64 25
                      · intro w1 hg A hA
                        obtain ⟨v2, e2, h2⟩ := hA.dep 2 (d := 78) (by kernel_rfl) (by kernel_rfl) rfl
                        rcases h2 with rfl
                        exact does_off rfl (by kernel_rfl) e2 ne_ft (Grow.refl _) rfl
                      -- 5: pick t78 t80 false
                      · intro w1 hg A hA
                        obtain ⟨v2, e2, h2⟩ := hA.dep 2 (d := 78) (by kernel_rfl) (by kernel_rfl) rfl
                        rcases h2 with rfl
                        obtain ⟨v4, e4, h4⟩ := hA.dep 4 (d := 80) (by kernel_rfl) (by kernel_rfl) rfl
                        rcases h4 with rfl
                        refine does_plain rfl fun K Q' hK => ?_
                        go_simp; exact hK _ _ (Grow.refl _) rfl
                      -- 6: move t81
                      · intro w1 hg A hA
                        obtain ⟨v5, e5, h5⟩ := hA.dep 5 (d := 81) (by kernel_rfl) (by kernel_rfl) rfl
                        rcases h5 with rfl
                        refine does_plain rfl fun K Q' hK => ?_
                        go_simp; exact hK _ _ (Grow.refl _) rfl
                      -- 7: move t11
                      · intro w1 hg A hA
                        obtain ⟨v6, e6, h6⟩ := hA.dep 6 (d := 82) (by kernel_rfl) (by kernel_rfl) rfl
                        rcases h6 with rfl
                        exact does_off rfl (by kernel_rfl) e6 ne_ft (Grow.refl _) rfl
                      -- 8: convert 30 9 t83
                      · intro w1 hg A hA
                        obtain ⟨v6, e6, h6⟩ := hA.dep 6 (d := 82) (by kernel_rfl) (by kernel_rfl) rfl
                        rcases h6 with rfl
                        exact does_off rfl (by kernel_rfl) e6 ne_ft (Grow.refl _) rfl
                      -- 9: move t9
                      · intro w1 hg A hA
                        obtain ⟨v6, e6, h6⟩ := hA.dep 6 (d := 82) (by kernel_rfl) (by kernel_rfl) rfl
                        rcases h6 with rfl
                        exact does_off rfl (by kernel_rfl) e6 ne_ft (Grow.refl _) rfl
                      -- 10: binOp BinOp.add 3 200:i64 t85 3
                      · intro w1 hg A hA
                        obtain ⟨v6, e6, h6⟩ := hA.dep 6 (d := 82) (by kernel_rfl) (by kernel_rfl) rfl
                        rcases h6 with rfl
                        exact does_off rfl (by kernel_rfl) e6 ne_ft (Grow.refl _) rfl
                      -- 11: call fn10<locksmithlaw3.sector> [t86] T[3]
                      · intro w1 hg A hA
                        obtain ⟨v6, e6, h6⟩ := hA.dep 6 (d := 82) (by kernel_rfl) (by kernel_rfl) rfl
                        rcases h6 with rfl
                        exact does_off rfl (by kernel_rfl) e6 ne_ft (Grow.refl _) rfl
                      -- 12: convert 30 9 t87
                      · intro w1 hg A hA
                        obtain ⟨v6, e6, h6⟩ := hA.dep 6 (d := 82) (by kernel_rfl) (by kernel_rfl) rfl
                        rcases h6 with rfl
                        exact does_off rfl (by kernel_rfl) e6 ne_ft (Grow.refl _) rfl
                      -- 13: binOp BinOp.eql 9 t84 t88 9
                      · intro w1 hg A hA
                        obtain ⟨v6, e6, h6⟩ := hA.dep 6 (d := 82) (by kernel_rfl) (by kernel_rfl) rfl
                        rcases h6 with rfl
                        exact does_off rfl (by kernel_rfl) e6 ne_ft (Grow.refl _) rfl
                      -- 14: pick t82 t89 false
                      · intro w1 hg A hA
                        obtain ⟨v6, e6, h6⟩ := hA.dep 6 (d := 82) (by kernel_rfl) (by kernel_rfl) rfl
                        rcases h6 with rfl
                        obtain ⟨v13, e13, h13⟩ := hA.dep 13 (d := 89) (by kernel_rfl) (by kernel_rfl) rfl
                        rcases h13 with rfl
                        refine does_plain rfl fun K Q' hK => ?_
                        go_simp; exact hK _ _ (Grow.refl _) rfl
                      -- 15: move t90
                      · intro w1 hg A hA
                        obtain ⟨v14, e14, h14⟩ := hA.dep 14 (d := 90) (by kernel_rfl) (by kernel_rfl) rfl
                        rcases h14 with rfl
                        refine does_plain rfl fun K Q' hK => ?_
                        go_simp; exact hK _ _ (Grow.refl _) rfl
                      -- 16: move t10
                      · intro w1 hg A hA
                        obtain ⟨v15, e15, h15⟩ := hA.dep 15 (d := 91) (by kernel_rfl) (by kernel_rfl) rfl
                        rcases h15 with rfl
                        have s10 := hA.slot 10 (v := .int .i64 2) (by kernel_rfl) rfl
                        refine does_on rfl (by kernel_rfl) e15 fun K Q' hK => ?_
                        clear e15
                        go_simp; exact hK _ _ (Grow.refl _) rfl
                      -- 17: binOp BinOp.eql 3 t92 1:i64 3
                      · intro w1 hg A hA
                        obtain ⟨v16, e16, h16⟩ := hA.dep 16 (d := 92) (by kernel_rfl) (by kernel_rfl) rfl
                        rcases h16 with rfl
                        obtain ⟨v15, e15, h15⟩ := hA.dep 15 (d := 91) (by kernel_rfl) (by kernel_rfl) rfl
                        rcases h15 with rfl
                        refine does_on rfl (by kernel_rfl) e15 fun K Q' hK => ?_
                        clear e15
                        go_simp; exact hK _ _ (Grow.refl _) rfl
                      -- 18: move t93
                      · intro w1 hg A hA
                        obtain ⟨v17, e17, h17⟩ := hA.dep 17 (d := 93) (by kernel_rfl) (by kernel_rfl) rfl
                        rcases h17 with rfl
                        obtain ⟨v15, e15, h15⟩ := hA.dep 15 (d := 91) (by kernel_rfl) (by kernel_rfl) rfl
                        rcases h15 with rfl
                        refine does_on rfl (by kernel_rfl) e15 fun K Q' hK => ?_
                        clear e15
                        go_simp; exact hK _ _ (Grow.refl _) rfl
                      -- 19: move t12
                      · intro w1 hg A hA
                        obtain ⟨v18, e18, h18⟩ := hA.dep 18 (d := 94) (by kernel_rfl) (by kernel_rfl) rfl
                        rcases h18 with rfl
                        exact does_off rfl (by kernel_rfl) e18 ne_ft (Grow.refl _) rfl
                      -- 20: binOp BinOp.eql 25 t95 0:i64 25
                      · intro w1 hg A hA
                        obtain ⟨v18, e18, h18⟩ := hA.dep 18 (d := 94) (by kernel_rfl) (by kernel_rfl) rfl
                        rcases h18 with rfl
                        exact does_off rfl (by kernel_rfl) e18 ne_ft (Grow.refl _) rfl
                      -- 21: pick t94 t96 false
                      · intro w1 hg A hA
                        obtain ⟨v18, e18, h18⟩ := hA.dep 18 (d := 94) (by kernel_rfl) (by kernel_rfl) rfl
                        rcases h18 with rfl
                        obtain ⟨v20, e20, h20⟩ := hA.dep 20 (d := 96) (by kernel_rfl) (by kernel_rfl) rfl
                        rcases h20 with rfl
                        obtain ⟨v15, e15, h15⟩ := hA.dep 15 (d := 91) (by kernel_rfl) (by kernel_rfl) rfl
                        rcases h15 with rfl
                        refine does_on rfl (by kernel_rfl) e15 fun K Q' hK => ?_
                        clear e15
                        go_simp; exact hK _ _ (Grow.refl _) rfl
                      -- 22: move t97
                      · intro w1 hg A hA
                        obtain ⟨v21, e21, h21⟩ := hA.dep 21 (d := 97) (by kernel_rfl) (by kernel_rfl) rfl
                        rcases h21 with rfl
                        obtain ⟨v15, e15, h15⟩ := hA.dep 15 (d := 91) (by kernel_rfl) (by kernel_rfl) rfl
                        rcases h15 with rfl
                        refine does_on rfl (by kernel_rfl) e15 fun K Q' hK => ?_
                        clear e15
                        go_simp; exact hK _ _ (Grow.refl _) rfl
                      -- 23: move t11
                      · intro w1 hg A hA
                        obtain ⟨v22, e22, h22⟩ := hA.dep 22 (d := 98) (by kernel_rfl) (by kernel_rfl) rfl
                        rcases h22 with rfl
                        exact does_off rfl (by kernel_rfl) e22 ne_ft (Grow.refl _) rfl
                      -- 24: convert 30 9 t99
                      · intro w1 hg A hA
                        obtain ⟨v22, e22, h22⟩ := hA.dep 22 (d := 98) (by kernel_rfl) (by kernel_rfl) rfl
                        rcases h22 with rfl
                        exact does_off rfl (by kernel_rfl) e22 ne_ft (Grow.refl _) rfl
                      -- 25: move t9
                      · intro w1 hg A hA
                        obtain ⟨v22, e22, h22⟩ := hA.dep 22 (d := 98) (by kernel_rfl) (by kernel_rfl) rfl
                        rcases h22 with rfl
                        exact does_off rfl (by kernel_rfl) e22 ne_ft (Grow.refl _) rfl
                      -- 26: binOp BinOp.sub 3 119:i64 t101 3
                      · intro w1 hg A hA
                        obtain ⟨v22, e22, h22⟩ := hA.dep 22 (d := 98) (by kernel_rfl) (by kernel_rfl) rfl
                        rcases h22 with rfl
                        exact does_off rfl (by kernel_rfl) e22 ne_ft (Grow.refl _) rfl
                      -- 27: call fn10<locksmithlaw3.sector> [t102] T[3]
                      · intro w1 hg A hA
                        obtain ⟨v22, e22, h22⟩ := hA.dep 22 (d := 98) (by kernel_rfl) (by kernel_rfl) rfl
                        rcases h22 with rfl
                        exact does_off rfl (by kernel_rfl) e22 ne_ft (Grow.refl _) rfl
                      -- 28: convert 30 9 t103
                      · intro w1 hg A hA
                        obtain ⟨v22, e22, h22⟩ := hA.dep 22 (d := 98) (by kernel_rfl) (by kernel_rfl) rfl
                        rcases h22 with rfl
                        exact does_off rfl (by kernel_rfl) e22 ne_ft (Grow.refl _) rfl
                      -- 29: binOp BinOp.eql 9 t100 t104 9
                      · intro w1 hg A hA
                        obtain ⟨v22, e22, h22⟩ := hA.dep 22 (d := 98) (by kernel_rfl) (by kernel_rfl) rfl
                        rcases h22 with rfl
                        exact does_off rfl (by kernel_rfl) e22 ne_ft (Grow.refl _) rfl
                      -- 30: pick t98 t105 false
                      · intro w1 hg A hA
                        obtain ⟨v22, e22, h22⟩ := hA.dep 22 (d := 98) (by kernel_rfl) (by kernel_rfl) rfl
                        rcases h22 with rfl
                        obtain ⟨v29, e29, h29⟩ := hA.dep 29 (d := 105) (by kernel_rfl) (by kernel_rfl) rfl
                        rcases h29 with rfl
                        obtain ⟨v15, e15, h15⟩ := hA.dep 15 (d := 91) (by kernel_rfl) (by kernel_rfl) rfl
                        rcases h15 with rfl
                        refine does_on rfl (by kernel_rfl) e15 fun K Q' hK => ?_
                        clear e15
                        go_simp; exact hK _ _ (Grow.refl _) rfl
                      -- 31: pick t91 true t106
                      · intro w1 hg A hA
                        obtain ⟨v15, e15, h15⟩ := hA.dep 15 (d := 91) (by kernel_rfl) (by kernel_rfl) rfl
                        rcases h15 with rfl
                        obtain ⟨v30, e30, h30⟩ := hA.dep 30 (d := 106) (by kernel_rfl) (by kernel_rfl) rfl
                        rcases h30 with rfl
                        refine does_plain rfl fun K Q' hK => ?_
                        go_simp; exact hK _ _ (Grow.refl _) rfl
                      -- 32: move t107
                      · intro w1 hg A hA
                        obtain ⟨v31, e31, h31⟩ := hA.dep 31 (d := 107) (by kernel_rfl) (by kernel_rfl) rfl
                        rcases h31 with rfl
                        refine does_plain rfl fun K Q' hK => ?_
                        go_simp; exact hK _ _ (Grow.refl _) rfl
                      -- 33: move t10
                      · intro w1 hg A hA
                        obtain ⟨v32, e32, h32⟩ := hA.dep 32 (d := 108) (by kernel_rfl) (by kernel_rfl) rfl
                        rcases h32 with rfl
                        have s10 := hA.slot 10 (v := .int .i64 2) (by kernel_rfl) rfl
                        refine does_on rfl (by kernel_rfl) e32 fun K Q' hK => ?_
                        clear e32
                        go_simp; exact hK _ _ (Grow.refl _) rfl
                      -- 34: binOp BinOp.eql 3 t109 2:i64 3
                      · intro w1 hg A hA
                        obtain ⟨v33, e33, h33⟩ := hA.dep 33 (d := 109) (by kernel_rfl) (by kernel_rfl) rfl
                        rcases h33 with rfl
                        obtain ⟨v32, e32, h32⟩ := hA.dep 32 (d := 108) (by kernel_rfl) (by kernel_rfl) rfl
                        rcases h32 with rfl
                        refine does_on rfl (by kernel_rfl) e32 fun K Q' hK => ?_
                        clear e32
                        go_simp; exact hK _ _ (Grow.refl _) rfl
                      -- 35: move t110
                      · intro w1 hg A hA
                        obtain ⟨v34, e34, h34⟩ := hA.dep 34 (d := 110) (by kernel_rfl) (by kernel_rfl) rfl
                        rcases h34 with rfl
                        obtain ⟨v32, e32, h32⟩ := hA.dep 32 (d := 108) (by kernel_rfl) (by kernel_rfl) rfl
                        rcases h32 with rfl
                        refine does_on rfl (by kernel_rfl) e32 fun K Q' hK => ?_
                        clear e32
                        go_simp; exact hK _ _ (Grow.refl _) rfl
                      -- 36: move t12
                      · intro w1 hg A hA
                        obtain ⟨v35, e35, h35⟩ := hA.dep 35 (d := 111) (by kernel_rfl) (by kernel_rfl) rfl
                        rcases h35 with rfl
                        have s12 := hA.slot 12 (v := .int .i64 8) (by kernel_rfl) rfl
                        refine does_on rfl (by kernel_rfl) e35 fun K Q' hK => ?_
                        clear e35
                        go_simp; exact hK _ _ (Grow.refl _) rfl
                      -- 37: binOp BinOp.eql 25 t112 8:i64 25
                      · intro w1 hg A hA
                        obtain ⟨v36, e36, h36⟩ := hA.dep 36 (d := 112) (by kernel_rfl) (by kernel_rfl) rfl
                        rcases h36 with rfl
                        obtain ⟨v35, e35, h35⟩ := hA.dep 35 (d := 111) (by kernel_rfl) (by kernel_rfl) rfl
                        rcases h35 with rfl
                        refine does_on rfl (by kernel_rfl) e35 fun K Q' hK => ?_
                        clear e35
                        go_simp; exact hK _ _ (Grow.refl _) rfl
                      -- 38: pick t111 t113 false
                      · intro w1 hg A hA
                        obtain ⟨v35, e35, h35⟩ := hA.dep 35 (d := 111) (by kernel_rfl) (by kernel_rfl) rfl
                        rcases h35 with rfl
                        obtain ⟨v37, e37, h37⟩ := hA.dep 37 (d := 113) (by kernel_rfl) (by kernel_rfl) rfl
                        rcases h37 with rfl
                        obtain ⟨v32, e32, h32⟩ := hA.dep 32 (d := 108) (by kernel_rfl) (by kernel_rfl) rfl
                        rcases h32 with rfl
                        refine does_on rfl (by kernel_rfl) e32 fun K Q' hK => ?_
                        clear e32
                        go_simp; exact hK _ _ (Grow.refl _) rfl
                      -- 39: move t114
                      · intro w1 hg A hA
                        obtain ⟨v38, e38, h38⟩ := hA.dep 38 (d := 114) (by kernel_rfl) (by kernel_rfl) rfl
                        rcases h38 with rfl
                        obtain ⟨v32, e32, h32⟩ := hA.dep 32 (d := 108) (by kernel_rfl) (by kernel_rfl) rfl
                        rcases h32 with rfl
                        refine does_on rfl (by kernel_rfl) e32 fun K Q' hK => ?_
                        clear e32
                        go_simp; exact hK _ _ (Grow.refl _) rfl
                      -- 40: move t11
                      · intro w1 hg A hA
                        obtain ⟨v39, e39, h39⟩ := hA.dep 39 (d := 115) (by kernel_rfl) (by kernel_rfl) rfl
                        rcases h39 with rfl
                        have s11 := hA.slot 11 (v := .slice a5 0 c5) (by kernel_rfl) rfl
                        refine does_on rfl (by kernel_rfl) e39 fun K Q' hK => ?_
                        clear e39
                        go_simp; exact hK _ _ (Grow.refl _) rfl
                      -- 41: call len [t116] T[30]
                      · intro w1 hg A hA
                        obtain ⟨v40, e40, h40⟩ := hA.dep 40 (d := 116) (by kernel_rfl) (by kernel_rfl) rfl
                        rcases h40 with rfl
                        obtain ⟨v39, e39, h39⟩ := hA.dep 39 (d := 115) (by kernel_rfl) (by kernel_rfl) rfl
                        rcases h39 with rfl
                        refine does_on rfl (by kernel_rfl) e39 fun K Q' hK => ?_
                        clear e39
                        go_simp; exact hK _ _ (Grow.refl _) rfl
                      -- 42: binOp BinOp.eql 3 t117 0:i64 3
                      · intro w1 hg A hA
                        obtain ⟨v41, e41, h41⟩ := hA.dep 41 (d := 117) (by kernel_rfl) (by kernel_rfl) rfl
                        rcases h41 with rfl
                        obtain ⟨v39, e39, h39⟩ := hA.dep 39 (d := 115) (by kernel_rfl) (by kernel_rfl) rfl
                        rcases h39 with rfl
                        refine does_on rfl (by kernel_rfl) e39 fun K Q' hK => ?_
                        clear e39
                        go_simp; exact hK _ _ (Grow.refl _) rfl
                      -- 43: pick t115 t118 false
                      · intro w1 hg A hA
                        obtain ⟨v39, e39, h39⟩ := hA.dep 39 (d := 115) (by kernel_rfl) (by kernel_rfl) rfl
                        rcases h39 with rfl
                        obtain ⟨v42, e42, h42⟩ := hA.dep 42 (d := 118) (by kernel_rfl) (by kernel_rfl) rfl
                        rcases h42 with rfl
                        obtain ⟨v32, e32, h32⟩ := hA.dep 32 (d := 108) (by kernel_rfl) (by kernel_rfl) rfl
                        rcases h32 with rfl
                        refine does_on rfl (by kernel_rfl) e32 fun K Q' hK => ?_
                        clear e32
                        go_simp; exact hK _ _ (Grow.refl _) rfl
                      -- 44: pick t108 true t119
                      · intro w1 hg A hA
                        obtain ⟨v32, e32, h32⟩ := hA.dep 32 (d := 108) (by kernel_rfl) (by kernel_rfl) rfl
                        rcases h32 with rfl
                        obtain ⟨v43, e43, h43⟩ := hA.dep 43 (d := 119) (by kernel_rfl) (by kernel_rfl) rfl
                        rcases h43 with rfl
                        refine does_plain rfl fun K Q' hK => ?_
                        go_simp; exact hK _ _ (Grow.refl _) rfl
                    intro w1 hg
                    refine upon_w' (js := [0, 1, 2, 3, 4, 5, 6, 7, 8, 9, 10, 11, 12, 13, 14, 15, 16, 17, 18, 19, 20, 21, 22, 23, 24, 25, 26, 27, 28, 29, 30, 31, 32, 33, 34, 35, 36, 37, 38, 39, 40, 41, 42, 43, 44]) (by rfl) ?_
                    refine upon_c (x := some 76) (by kernel_rfl) rfl fun v0 h0 => ?_
                    rcases h0 with rfl
                    refine upon_c (x := some 77) (by kernel_rfl) rfl fun v1 h1 => ?_
                    rcases h1 with rfl
                    refine upon_c (x := some 78) (by kernel_rfl) rfl fun v2 h2 => ?_
                    rcases h2 with rfl
                    refine upon_c (x := some 79) (by kernel_rfl) rfl fun v3 h3 => ?_
                    rcases h3 with rfl
                    refine upon_c (x := some 80) (by kernel_rfl) rfl fun v4 h4 => ?_
                    rcases h4 with rfl
                    refine upon_c (x := some 81) (by kernel_rfl) rfl fun v5 h5 => ?_
                    rcases h5 with rfl
                    refine upon_c (x := some 82) (by kernel_rfl) rfl fun v6 h6 => ?_
                    rcases h6 with rfl
                    refine upon_c (x := some 83) (by kernel_rfl) rfl fun v7 h7 => ?_
                    rcases h7 with rfl
                    refine upon_c (x := some 84) (by kernel_rfl) rfl fun v8 h8 => ?_
                    rcases h8 with rfl
                    refine upon_c (x := some 85) (by kernel_rfl) rfl fun v9 h9 => ?_
                    rcases h9 with rfl
                    refine upon_c (x := some 86) (by kernel_rfl) rfl fun v10 h10 => ?_
                    rcases h10 with rfl
                    refine upon_c (x := some 87) (by kernel_rfl) rfl fun v11 h11 => ?_
                    rcases h11 with rfl
                    refine upon_c (x := some 88) (by kernel_rfl) rfl fun v12 h12 => ?_
                    rcases h12 with rfl
                    refine upon_c (x := some 89) (by kernel_rfl) rfl fun v13 h13 => ?_
                    rcases h13 with rfl
                    refine upon_c (x := some 90) (by kernel_rfl) rfl fun v14 h14 => ?_
                    rcases h14 with rfl
                    refine upon_c (x := some 91) (by kernel_rfl) rfl fun v15 h15 => ?_
                    rcases h15 with rfl
                    refine upon_c (x := some 92) (by kernel_rfl) rfl fun v16 h16 => ?_
                    rcases h16 with rfl
                    refine upon_c (x := some 93) (by kernel_rfl) rfl fun v17 h17 => ?_
                    rcases h17 with rfl
                    refine upon_c (x := some 94) (by kernel_rfl) rfl fun v18 h18 => ?_
                    rcases h18 with rfl
                    refine upon_c (x := some 95) (by kernel_rfl) rfl fun v19 h19 => ?_
                    rcases h19 with rfl
                    refine upon_c (x := some 96) (by kernel_rfl) rfl fun v20 h20 => ?_
                    rcases h20 with rfl
                    refine upon_c (x := some 97) (by kernel_rfl) rfl fun v21 h21 => ?_
                    rcases h21 with rfl
                    refine upon_c (x := some 98) (by kernel_rfl) rfl fun v22 h22 => ?_
                    rcases h22 with rfl
                    refine upon_c (x := some 99) (by kernel_rfl) rfl fun v23 h23 => ?_
                    rcases h23 with rfl
                    refine upon_c (x := some 100) (by kernel_rfl) rfl fun v24 h24 => ?_
                    rcases h24 with rfl
                    refine upon_c (x := some 101) (by kernel_rfl) rfl fun v25 h25 => ?_
                    rcases h25 with rfl
                    refine upon_c (x := some 102) (by kernel_rfl) rfl fun v26 h26 => ?_
                    rcases h26 with rfl
                    refine upon_c (x := some 103) (by kernel_rfl) rfl fun v27 h27 => ?_
                    rcases h27 with rfl
                    refine upon_c (x := some 104) (by kernel_rfl) rfl fun v28 h28 => ?_
                    rcases h28 with rfl
                    refine upon_c (x := some 105) (by kernel_rfl) rfl fun v29 h29 => ?_
                    rcases h29 with rfl
                    refine upon_c (x := some 106) (by kernel_rfl) rfl fun v30 h30 => ?_
                    rcases h30 with rfl
                    refine upon_c (x := some 107) (by kernel_rfl) rfl fun v31 h31 => ?_
                    rcases h31 with rfl
                    refine upon_c (x := some 108) (by kernel_rfl) rfl fun v32 h32 => ?_
                    rcases h32 with rfl
                    refine upon_c (x := some 109) (by kernel_rfl) rfl fun v33 h33 => ?_
                    rcases h33 with rfl
                    refine upon_c (x := some 110) (by kernel_rfl) rfl fun v34 h34 => ?_
                    rcases h34 with rfl
                    refine upon_c (x := some 111) (by kernel_rfl) rfl fun v35 h35 => ?_
                    rcases h35 with rfl
                    refine upon_c (x := some 112) (by kernel_rfl) rfl fun v36 h36 => ?_
                    rcases h36 with rfl
                    refine upon_c (x := some 113) (by kernel_rfl) rfl fun v37 h37 => ?_
                    rcases h37 with rfl
                    refine upon_c (x := some 114) (by kernel_rfl) rfl fun v38 h38 => ?_
                    rcases h38 with rfl
                    refine upon_c (x := some 115) (by kernel_rfl) rfl fun v39 h39 => ?_
                    rcases h39 with rfl
                    refine upon_c (x := some 116) (by kernel_rfl) rfl fun v40 h40 => ?_
                    rcases h40 with rfl
                    refine upon_c (x := some 117) (by kernel_rfl) rfl fun v41 h41 => ?_
                    rcases h41 with rfl
                    refine upon_c (x := some 118) (by kernel_rfl) rfl fun v42 h42 => ?_
                    rcases h42 with rfl
                    refine upon_c (x := some 119) (by kernel_rfl) rfl fun v43 h43 => ?_
                    rcases h43 with rfl
                    refine upon_c (x := some 120) (by kernel_rfl) rfl fun v44 h44 => ?_
                    rcases h44 with rfl
                    refine upon_n ?_
                    go_wp2_with fail
                    go_meet
                    exact ⟨by rw [H0.out], rfl, hg⟩
                case rest =>
                  obtain ⟨rfl, rfl, hgr⟩ := hcut
                  have H7 := hid (H6.out.later hgr)
                  clear H6 hgr HR5 HE HEX HEE Hfate
                  by_cases kG : k < nG
                  · obtain ⟨bG, oG, hae, hcG⟩ := bools_get (HG.out.below H7.out.below) kG
                    subst hae
                    generalize lG.getD k false = ag at *
                    cases ag with
                    | false =>
                      go_wp2_with fail
                      go_roundw
                      case rel => exact ⟨k + 1, wk, sec, by omega, by go_num, H7.out, hsl, by omega, fun j hj hj2 => HSX.out j (by omega) hj2⟩
                      case measure => simp [intOf]; omega
                    | true =>
                      go_wp2_with fail
                      refine (sector_any _ _).mono ?_
                      rintro e v1 ⟨a8, c8, rfl, ho8, hb8⟩
                      have HO8 := hid ho8; have HB8 := hid hb8; clear ho8 hb8
                      go_wp2_with fail
                      rw [show (19 : Int) - (k : Int) = ((19 - k : Nat) : Int) by omega]
                      refine (write_s p (19 - k) _ a8 c8 _ [] w _ _ H7.out HB8.out HO8.out (by show _ < sec.length; omega) (by show wk < _; omega) (by show (0 : Nat) < _; omega)).mono ?_
                      rintro e v2 ⟨rfl, h9⟩
                      have H9 := hid h9; clear h9
                      go_wp2_with fail
                      refine (flush_s p _ [] w _ H9.out (by show wk + 1 < _; omega)).mono ?_
                      rintro e v3 ⟨rfl, h9⟩
                      rw [S3_wf] at h9
                      have H10 := hid h9; clear h9
                      have hx2 : (sec.set (19 - k) (handBytes 64 (300 + (k : Int)), false))[19 - k]? = some (handBytes 64 (300 + (k : Int)), false) := List.getElem?_set_self (by omega)
                      have HX2 := hid hx2; clear hx2
                      go_wp2_with fail
                      rw [show (19 : Int) - (k : Int) = ((19 - k : Nat) : Int) by omega]
                      refine (read_s p (19 - k) _ [] w _ H10.out (by show _ < (sec.set _ _).length; rw [List.length_set]; omega)).mono ?_
                      rintro e v4 ⟨a9, n9, c9, rfl, hr9, h9, hb9⟩
                      rw [S3_read _ _ _ _ _ HX2.out] at hr9 h9 ⊢
                      simp only [Bool.false_eq_true, if_false] at hr9 h9 ⊢
                      have HR9 := hid hr9; have H11 := hid h9.drop
                      clear hr9 h9 hb9
                      go_upto_region 28 with (fail)
                      refine wp_region_each 11 [.eq (.int .i64 0), .eq (.bool false), .eq (.bool false), .eq (.slice a9 n9 c9), .eq (.string ⟨(handBytes 64 (300 + (k : Int))).toArray⟩), .eq (.int .i64 (k : Int)), .eq (.int .i64 (300 + (k : Int))), sSec (handBytes 64 (300 + (k : Int))), .eq (.string ⟨(handBytes 64 (300 + (k : Int))).toArray⟩), .eq (.bool false), .eq (.bool false)] (by kernel_rfl) (by kernel_rfl) (by kernel_rfl) (by kernel_rfl) ?_ ?_
                      · refine each_c (o' := _) ?_ (each_c (o' := _) ?_ (each_c (o' := _) ?_ (each_c (o' := _) ?_ (each_c (o' := _) ?_ (each_c (o' := _) ?_ (each_c (o' := _) ?_ (each_c (o' := _) ?_ (each_c (o' := _) ?_ (each_c (o' := _) ?_ (each_c (o' := _) ?_ (each_n)))))))))))
                        -- 0: move t15
                        · intro w1 hg A hA
                          have s15 := hA.slot 15 (v := .int .i64 0) (by kernel_rfl) rfl
                          refine does_plain rfl fun K Q' hK => ?_
                          go_simp; exact hK _ _ (Grow.refl _) rfl
                        -- 1: binOp BinOp.neq 25 t149 0:i64 25
                        · intro w1 hg A hA
                          obtain ⟨v0, e0, h0⟩ := hA.dep 0 (d := 149) (by kernel_rfl) (by kernel_rfl) rfl
                          rcases h0 with rfl
                          refine does_plain rfl fun K Q' hK => ?_
                          go_simp; exact hK _ _ (Grow.refl _) rfl
                        -- 2: move t150
                        · intro w1 hg A hA
                          obtain ⟨v1, e1, h1⟩ := hA.dep 1 (d := 150) (by kernel_rfl) (by kernel_rfl) rfl
                          rcases h1 with rfl
                          refine does_plain rfl fun K Q' hK => ?_
                          go_simp; exact hK _ _ (Grow.refl _) rfl
                        -- 3: move t14
                        · intro w1 hg A hA
                          obtain ⟨v2, e2, h2⟩ := hA.dep 2 (d := 151) (by kernel_rfl) (by kernel_rfl) rfl
                          rcases h2 with rfl
                          have s14 := hA.slot 14 (v := .slice a9 n9 c9) (by kernel_rfl) rfl
                          refine does_on rfl (by kernel_rfl) e2 fun K Q' hK => ?_
                          clear e2
                          go_simp; exact hK _ _ (Grow.refl _) rfl
                        -- 4: convert 30 9 t152
                        · intro w1 hg A hA
                          obtain ⟨v3, e3, h3⟩ := hA.dep 3 (d := 152) (by kernel_rfl) (by kernel_rfl) rfl
                          rcases h3 with rfl
                          obtain ⟨v2, e2, h2⟩ := hA.dep 2 (d := 151) (by kernel_rfl) (by kernel_rfl) rfl
                          rcases h2 with rfl
                          refine does_on rfl (by kernel_rfl) e2 fun K Q' hK => ?_
                          clear e2
                          have s := str_of 30 9 5 Try.underlying30 Try.underlying5 Try.underlying9 (HR9.out.below hg) c9
                          go_simp; exact hK _ _ (Grow.refl _) rfl
                        -- 5: move t9
                        · intro w1 hg A hA
                          obtain ⟨v2, e2, h2⟩ := hA.dep 2 (d := 151) (by kernel_rfl) (by kernel_rfl) rfl
                          rcases h2 with rfl
                          have s9 := hA.slot 9 (v := .int .i64 (k : Int)) (by kernel_rfl) rfl
                          refine does_on rfl (by kernel_rfl) e2 fun K Q' hK => ?_
                          clear e2
                          go_simp; exact hK _ _ (Grow.refl _) rfl
                        -- 6: binOp BinOp.add 3 300:i64 t154 3
                        · intro w1 hg A hA
                          obtain ⟨v5, e5, h5⟩ := hA.dep 5 (d := 154) (by kernel_rfl) (by kernel_rfl) rfl
                          rcases h5 with rfl
                          obtain ⟨v2, e2, h2⟩ := hA.dep 2 (d := 151) (by kernel_rfl) (by kernel_rfl) rfl
                          rcases h2 with rfl
                          refine does_on rfl (by kernel_rfl) e2 fun K Q' hK => ?_
                          clear e2
                          have hs : IntKind.i64.wrap (300 + (k : Int)) = 300 + (k : Int) := IntWalk.i64_in _ (by omega)
                          go_simp; exact hK _ _ (Grow.refl _) rfl
                        -- 7: call fn10<locksmithlaw3.sector> [t155] T[3]
                        · intro w1 hg A hA
                          obtain ⟨v6, e6, h6⟩ := hA.dep 6 (d := 155) (by kernel_rfl) (by kernel_rfl) rfl
                          rcases h6 with rfl
                          obtain ⟨v2, e2, h2⟩ := hA.dep 2 (d := 151) (by kernel_rfl) (by kernel_rfl) rfl
                          rcases h2 with rfl
                          refine does_on rfl (by kernel_rfl) e2 fun K Q' hK => ?_
                          clear e2
                          go_simp
                          refine (sector_any _ _).mono ?_; rintro e u ⟨b, d, rfl, ho, hb⟩; refine hK _ _ hb ⟨b, d, rfl, RdB.of_own ho⟩
                        -- 8: convert 30 9 t156
                        · intro w1 hg A hA
                          obtain ⟨v7, e7, h7⟩ := hA.dep 7 (d := 156) (by kernel_rfl) (by kernel_rfl) rfl
                          obtain ⟨v2, e2, h2⟩ := hA.dep 2 (d := 151) (by kernel_rfl) (by kernel_rfl) rfl
                          rcases h2 with rfl
                          refine does_on rfl (by kernel_rfl) e2 fun K Q' hK => ?_
                          clear e2
                          obtain ⟨b, d, rfl, hr⟩ := h7
                          have s := str_of 30 9 5 Try.underlying30 Try.underlying5 Try.underlying9 hr d
                          go_simp; exact hK _ _ (Grow.refl _) rfl
                        -- 9: binOp BinOp.neq 9 t153 t157 9
                        · intro w1 hg A hA
                          obtain ⟨v4, e4, h4⟩ := hA.dep 4 (d := 153) (by kernel_rfl) (by kernel_rfl) rfl
                          rcases h4 with rfl
                          obtain ⟨v8, e8, h8⟩ := hA.dep 8 (d := 157) (by kernel_rfl) (by kernel_rfl) rfl
                          rcases h8 with rfl
                          obtain ⟨v2, e2, h2⟩ := hA.dep 2 (d := 151) (by kernel_rfl) (by kernel_rfl) rfl
                          rcases h2 with rfl
                          refine does_on rfl (by kernel_rfl) e2 fun K Q' hK => ?_
                          clear e2
                          go_simp; exact hK _ _ (Grow.refl _) rfl
                        -- 10: pick t151 true t158
                        · intro w1 hg A hA
                          obtain ⟨v2, e2, h2⟩ := hA.dep 2 (d := 151) (by kernel_rfl) (by kernel_rfl) rfl
                          rcases h2 with rfl
                          obtain ⟨v9, e9, h9⟩ := hA.dep 9 (d := 158) (by kernel_rfl) (by kernel_rfl) rfl
                          rcases h9 with rfl
                          refine does_plain rfl fun K Q' hK => ?_
                          go_simp; exact hK _ _ (Grow.refl _) rfl
                      intro w1 hg
                      refine upon_w' (js := [0, 1, 2, 3, 4, 5, 6, 7, 8, 9, 10]) (by rfl) ?_
                      refine upon_c (x := some 149) (by kernel_rfl) rfl fun v0 h0 => ?_
                      rcases h0 with rfl
                      refine upon_c (x := some 150) (by kernel_rfl) rfl fun v1 h1 => ?_
                      rcases h1 with rfl
                      refine upon_c (x := some 151) (by kernel_rfl) rfl fun v2 h2 => ?_
                      rcases h2 with rfl
                      refine upon_c (x := some 152) (by kernel_rfl) rfl fun v3 h3 => ?_
                      rcases h3 with rfl
                      refine upon_c (x := some 153) (by kernel_rfl) rfl fun v4 h4 => ?_
                      rcases h4 with rfl
                      refine upon_c (x := some 154) (by kernel_rfl) rfl fun v5 h5 => ?_
                      rcases h5 with rfl
                      refine upon_c (x := some 155) (by kernel_rfl) rfl fun v6 h6 => ?_
                      rcases h6 with rfl
                      refine upon_c (x := some 156) (by kernel_rfl) rfl fun v7 h7 => ?_
                      refine upon_c (x := some 157) (by kernel_rfl) rfl fun v8 h8 => ?_
                      rcases h8 with rfl
                      refine upon_c (x := some 158) (by kernel_rfl) rfl fun v9 h9 => ?_
                      rcases h9 with rfl
                      refine upon_c (x := some 159) (by kernel_rfl) rfl fun v10 h10 => ?_
                      rcases h10 with rfl
                      refine upon_n ?_
                      go_simp
                      go_wp2_with fail
                      go_roundw
                      case rel =>
                        refine ⟨k + 1, wk + 2, sec.set (19 - k) (handBytes 64 (300 + (k : Int)), false), by omega, by go_num, H11.out.later hg, by rw [List.length_set]; exact hsl, by omega, fun j hj hj2 => ?_⟩
                        rw [List.getElem?_set_ne (by omega)]
                        exact HSX.out j (by omega) hj2
                      case measure => simp [intOf]; omega
                  · go_wp2_with fail
                    go_roundw
                    case rel => exact ⟨k + 1, wk, sec, by omega, by go_num, H7.out, hsl, by omega, fun j hj hj2 => HSX.out j (by omega) hj2⟩
                    case measure => simp [intOf]; omega
            · obtain rfl : k = 20 := by omega
              go_wp2_with fail
              go_ret
              exact ⟨rfl, H3.out.below⟩
end Go.Proofs.Ythcjiiknhldgoaa
