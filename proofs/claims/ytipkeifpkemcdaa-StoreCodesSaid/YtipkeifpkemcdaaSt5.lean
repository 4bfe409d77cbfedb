/- Chapter 5's statements: list, same. -/
import Derived.Test.YtipkeifpkemcdaaMStA
import Derived.Test.YtipkeifpkemcdaaHand
import Derived.Test.YtipkeifpkemcdaaRegionP
namespace Go.Proofs.Ytipkeifpkemcdaa
open Go.RowKit
set_option linter.unusedVariables false
set_option linter.unusedSimpArgs false
set_option maxRecDepth 1000000
set_option maxHeartbeats 6400000
/-- A raw change. -/
structure RawD where
  key : Int := 0
  size : Int := 0
  n : Int := 0
  has : Bool := false
  odd : ByteArray := ⟨#[]⟩
instance : Inhabited RawD := ⟨{}⟩
def RawD.cells (x : RawD) : List Value := [.int .i64 x.key, .int .i64 x.size, .int .i64 x.n, .bool x.has, .string x.odd]
structure RwA (w : World) (a : Option Addr) (n : Nat) (l : List RawD) : Prop where
  len : l.length = n
  sm : n ≤ 140737488355328
  row : ∀ k, k < n → ∃ b off x, a = some ⟨b, off, none⟩ ∧ l[k]? = some x ∧ w.rangeAt b (off + k * 5) x.cells ∧ x.odd.size ≤ 9223372036854775807
theorem RwA.below {w w' : World} {a : Option Addr} {n : Nat} {l : List RawD} (h : RwA w a n l) (hb : Below w.heap.size w w') : RwA w' a n l :=
  ⟨h.len, h.sm, fun k hk => let ⟨b, off, y, h1, h2, h3, h4⟩ := h.row k hk; ⟨b, off, y, h1, h2, fun j v hv => (Chg.of_below hb []).cell (h3 j v hv) (by simp), h4⟩⟩
theorem rwSize : (Try.prog.info? 63).map (·.size) = some 5 := by kernel_rfl
theorem rwZero : (Try.prog.info? 63).map (·.zero) = some (some (.agg #[.int .i64 0, .int .i64 0, .int .i64 0, .bool false, .string ⟨#[]⟩])) := by kernel_rfl
theorem rwOne (x : RawD) : x.cells.toArray.all (·.oneCell') = true := by simp [RawD.cells, Value.oneCell']
theorem rdB_one {w : World} {q : Nat} {b : UInt8} {T : TypeId} (h : w.heap[q]? = some (.cells #[.int .u8 (b.toNat : Int)] T (0, 0))) : RdB w (some ⟨q, 0, none⟩) 1 [b] := by
  refine ⟨rfl, fun j hj => ⟨q, 0, rfl, fun i hi => ?_⟩⟩
  cases i with
  | zero => exact cell_of_block (j := 0) h rfl
  | succ i => simp at hi
/-- While changes are made. -/
structure LsL (w0 : World) (n : Nat) (y5 y6 : Value) (wr : World) : Prop where
  ex : ∃ (k on : Nat) (oa : Option Addr) (oc : Nat) (xs : List ChD), y5 = .slice oa on oc ∧ y6 = .int .i64 (k : Int) ∧ on ≤ k ∧ k ≤ n ∧ OwnC wr w0.heap.size ⟨oa, on, oc⟩ xs ∧ Below w0.heap.size w0 wr
def ListRes (w : World) (n : Nat) (e : Ending) (w' : World) : Prop := ∃ (a' : Option Addr) (n' c' : Nat) (xs : List ChD), e = .returned (.slice a' n' c') ∧ n' ≤ n ∧ ChQ w' (fun q => w.heap.size ≤ q ∧ q < w'.heap.size) ⟨a', n', c'⟩ xs ∧ Below w.heap.size w w'
def stBy5 : St Grow := ⟨fun v w => ∃ (q : Nat) (b : UInt8), v = .slice (some ⟨q, 0, none⟩) 1 1 ∧ w.heap[q]? = some (.cells #[.int .u8 (b.toNat : Int)] 5 (0, 0)), fun v w w' h hg => let ⟨q, b, e, h1⟩ := h; ⟨q, b, e, (hg.block _ (block_lt h1)).trans h1⟩⟩
def stKy : St Grow := ⟨fun v w => ∃ s : ByteArray, v = .string s ∧ s.size ≤ 1, fun v w w' h hg => h⟩
def stCh (hv : Bool) : St Grow := ⟨fun v w => ∃ s : ByteArray, v = .agg #[.string s, .bool hv, .slice none 0 0] ∧ s.size ≤ 1, fun v w w' h hg => h⟩
def stBf5 (lo n : Nat) : St Grow := ⟨fun v w => ∃ a c l, v = .slice a n c ∧ RdB w a n l ∧ (a = none → c = 0) ∧ ∀ b off sp, a = some ⟨b, off, sp⟩ → lo ≤ b ∧ b < w.heap.size, fun v w w' h hg => let ⟨a, c, l, e, h1, h2, h3⟩ := h; ⟨a, c, l, e, h1.below hg, h2, fun b off sp e => ⟨(h3 b off sp e).1, Nat.lt_of_lt_of_le (h3 b off sp e).2 hg.size⟩⟩⟩
def stBx (lo : Nat) : St Grow := ⟨fun v w => ∃ q : Nat, v = .pointer (some ⟨q, 0, none⟩) ∧ w.heap[q]? = some (.cells #[.string ⟨#[]⟩, .bool false, .slice none 0 0] 59 (0, 0)) ∧ lo ≤ q, fun v w w' h hg => let ⟨q, e, h1, h2⟩ := h; ⟨q, e, (hg.block _ (block_lt h1)).trans h1, h2⟩⟩
theorem list5_any (a : Option Addr) (n c : Nat) (l : List RawD) (most : Int) (w : World) (h : RwA w a n l) (hmo : most ≤ 1000) :
    Calls Try.prog 9 #[.slice a n c, .int .i64 most] w (ListRes w n) := by
  obtain ⟨i, hi, hz0, hz1, hz2⟩ := info_parts chInfo
  have H := hid h
  have hsm := h.sm
  clear h
  go_enter Try.func9, Try.ntmps9
  go_wp2_with fail
  go_loopw [5, 6] (fun y5 y6 wr => LsL w n y5 y6 wr) (fun _ y6 _ => n - (intOf y6).toNat)
  case atStart => exact ⟨⟨0, 0, none, 0, [], rfl, rfl, Nat.le_refl _, Nat.zero_le _, OwnC.nil _ _, Below.refl _ _⟩⟩
  case round =>
    obtain ⟨k, on, oa, oc, xs, rfl, rfl, hok, hkn, hown, hb⟩ := hrel.ex
    clear hrel
    have HO := hid hown; have HB := hid hb
    clear hown hb
    by_cases k1 : k < n
    · have k1z : (k : Int) < (n : Int) := by omega
      by_cases k2 : (k : Int) < most
      · obtain ⟨bL, oL, x, haL, hlx, hrow, hodd⟩ := (H.out.below HB.out).row k k1
        have HR := hid hrow; have HOD := hid hodd
        subst haL
        clear hlx hrow hodd
        go_upto_region 6 with (first | (refine wpList_load_mid rfl 63 _ rfl bL (oL + k * 5) rfl x.cells _ HR.out Try.underlying63 rfl rwSize ?_) | (refine wpList_alloc_obj rfl 63 rfl _ rwZero ?_) | (refine wpList_store_obj rfl 63 _ _ rfl wr.heap.size rfl x.cells.toArray rfl _ _ (block_new wr _) rfl rwSize (rwOne x) ?_; intro w5 hb5 hc5 hs5; have HX := hid hb5; have HC5 := hid hc5; clear hb5 hc5 hs5))
        have hbel : Below wr.heap.size wr w5 := ((Below.refl _ wr).alloc (Nat.le_refl _) _).trans (HC5.out.below (fun k hk => by rw [List.mem_singleton.1 hk]; exact Nat.le_refl _) (by simp))
        have HO5 := hid (HO.out.below hbel)
        have HB5 := hid (HB.out.trans (hbel.mono HB.out.size))
        clear hbel HC5 HR HO HB
        generalize wr.heap.size = bs at *
        have hlo := pick_lo x.key 7 (by omega)
        have hhi := pick_hi x.key 7 (by omega)
        obtain ⟨pk, hpk⟩ := Int.eq_ofNat_of_zero_le hlo
        have HPK := hid hpk
        have hpkl : pk < 7 := by omega
        have HZ : Hid (IntKind.u8.wrap (97 + (pk : Int)) = (((UInt8.ofNat (97 + pk)).toNat : Nat) : Int)) := by
          show _ = _
          rcases (show pk = 0 ∨ pk = 1 ∨ pk = 2 ∨ pk = 3 ∨ pk = 4 ∨ pk = 5 ∨ pk = 6 by omega) with rfl | rfl | rfl | rfl | rfl | rfl | rfl <;> rfl
        generalize UInt8.ofNat (97 + pk) = zb at *
        obtain ⟨h1, hh1⟩ : ∃ b, x.has = b := ⟨_, rfl⟩
        obtain ⟨h2, hh2⟩ : ∃ b, decide ((0 : Int) < x.n.tmod 3) = b := ⟨_, rfl⟩
        have HH1 := hid hh1; have HH2 := hid hh2
        clear hlo hhi hpk hh1 hh2
        cases h1 with
        | true =>
          refine wp_region_each 17 [.eq (.pointer (some ⟨bs, 0, none⟩)), .eq (.int .i64 x.key), .eq (.int .i64 (pk : Int)), .eq (.int .i64 (97 + (pk : Int))), .eq (.int .u8 ((zb.toNat : Nat) : Int)), stBy5, stKy, .eq (.pointer (some ⟨bs, 3, none⟩)), .eq (.bool true), .eq (.bool true), .eq undef, .eq undef, .eq undef, .eq undef, .eq (.bool true), stCh true, stBx w5.heap.size] (by kernel_rfl) (by kernel_rfl) (by kernel_rfl) (by kernel_rfl) ?_ ?_
          · all_goals
              refine each_5 ?_ ?_ ?_ ?_ ?_ (each_5 ?_ ?_ ?_ ?_ ?_ (each_5 ?_ ?_ ?_ ?_ ?_ (each_c ?_ (each_c ?_ (each_n)))))
              · intro w1 hg Ar seen
                have s7 := seen.sl 7 (.pointer (some ⟨bs, 0, none⟩))
                refine does_plain rfl fun K Q' hK => ?_
                go_simp; exact hK _ _ (Grow.refl _) rfl
              · intro w1 hg Ar seen
                have e0 := seen.de 0 24
                refine does_plain rfl fun K Q' hK => ?_
                have hc : w1.cell? ⟨bs, 0, none⟩ = some (.int .i64 x.key) := cell_of_block (j := 0) ((hg.block _ (block_lt HX.out)).trans HX.out) rfl
                go_simp; exact hK _ _ (Grow.refl _) rfl
              · intro w1 hg Ar seen
                have e1 := seen.de 1 25
                refine does_plain rfl fun K Q' hK => ?_
                go_simp
                refine (pick_any x.key 7 _ (by omega) (by omega)).mono ?_
                rintro e u ⟨rfl, rfl⟩
                exact hK _ _ (Grow.refl _) (congrArg (Value.int .i64) HPK.out)
              · intro w1 hg Ar seen
                have e2 := seen.de 2 26
                refine does_plain rfl fun K Q' hK => ?_
                have hw : IntKind.i64.wrap (97 + (pk : Int)) = 97 + (pk : Int) := IntWalk.i64_in _ (by omega)
                go_simp; exact hK _ _ (Grow.refl _) rfl
              · intro w1 hg Ar seen
                have e3 := seen.de 3 27
                refine does_plain rfl fun K Q' hK => ?_
                have hs := HZ.out
                go_simp; exact hK _ _ (Grow.refl _) rfl
              · intro w1 hg Ar seen
                have e4 := seen.de 4 28
                refine does_plain rfl fun K Q' hK => ?_
                go_simp
                exact hK _ _ ((Below.refl _ _).alloc (Nat.le_refl _) _) ⟨_, zb, rfl, block_new _ _⟩
              · intro w1 hg Ar seen
                obtain ⟨v5, e5, h5⟩ := seen.dp 5 29
                refine does_plain rfl fun K Q' hK => ?_
                obtain ⟨q2, b2, rfl, h4⟩ := h5
                have kc := run_bytes_str (P := Try.prog) (rdB_one h4) 1 24 9 5 Try.underlying24 Try.underlying5 Try.underlying9
                go_simp
                exact hK _ _ (Grow.refl _) ⟨_, rfl, Nat.le_refl _⟩
              · intro w1 hg Ar seen
                have s7 := seen.sl 7 (.pointer (some ⟨bs, 0, none⟩))
                refine does_plain rfl fun K Q' hK => ?_
                go_simp; exact hK _ _ (Grow.refl _) rfl
              · intro w1 hg Ar seen
                have e7 := seen.de 7 31
                refine does_plain rfl fun K Q' hK => ?_
                have hc : w1.cell? ⟨bs, 3, none⟩ = some (.bool true) := (cell_of_block (j := 3) ((hg.block _ (block_lt HX.out)).trans HX.out) rfl : w1.cell? ⟨bs, 3, none⟩ = some (.bool x.has)).trans (by rw [HH1.out])
                go_simp; exact hK _ _ (Grow.refl _) rfl
              · intro w1 hg Ar seen
                have e8 := seen.de 8 32
                refine does_plain rfl fun K Q' hK => ?_
                go_simp; exact hK _ _ (Grow.refl _) rfl
              · intro w1 hg Ar seen
                have e9 := seen.de 9 33
                exact does_off rfl (by kernel_rfl) e9 ne_tf (Grow.refl _) rfl
              · intro w1 hg Ar seen
                have e9 := seen.de 9 33
                exact does_off rfl (by kernel_rfl) e9 ne_tf (Grow.refl _) rfl
              · intro w1 hg Ar seen
                have e9 := seen.de 9 33
                exact does_off rfl (by kernel_rfl) e9 ne_tf (Grow.refl _) rfl
              · intro w1 hg Ar seen
                have e9 := seen.de 9 33
                exact does_off rfl (by kernel_rfl) e9 ne_tf (Grow.refl _) rfl
              · intro w1 hg Ar seen
                have e9 := seen.de 9 33
                have e13 := seen.de 13 37
                refine does_plain rfl fun K Q' hK => ?_
                go_simp; exact hK _ _ (Grow.refl _) rfl
              · intro w1 hg Ar seen
                obtain ⟨v6, e6, h6⟩ := seen.dp 6 30
                have e14 := seen.de 14 38
                refine does_plain rfl fun K Q' hK => ?_
                obtain ⟨s2, rfl, h4⟩ := h6
                go_simp
                exact hK _ _ (Grow.refl _) ⟨s2, rfl, h4⟩
              · intro w1 hg Ar seen
                refine does_plain rfl fun K Q' hK => ?_
                refine wp_alloc_obj 59 rfl _ chZero ?_
                exact hK _ _ ((Below.refl _ _).alloc (Nat.le_refl _) _) ⟨_, rfl, block_new _ _, hg.size⟩
          intro w1 hg
          refine upon_w' (js := [0, 1, 2, 3, 4, 5, 6, 7, 8, 9, 10, 11, 12, 13, 14, 15, 16]) (by rfl) ?_
          refine upon_e (some 24) (upon_e (some 25) (upon_e (some 26) (upon_e (some 27) (upon_e (some 28) (upon_v (some 29) fun v5 h5 => upon_v (some 30) fun v6 h6 => upon_e (some 31) (upon_e (some 32) (upon_e (some 33) (upon_e (some 34) (upon_e (some 35) (upon_e (some 36) (upon_e (some 37) (upon_e (some 38) (upon_v (some 39) fun v15 h15 => upon_v (some 8) fun v16 h16 => upon_n ?_)))))))))))))
          obtain ⟨s2, rfl, hs2⟩ := h15
          obtain ⟨q, rfl, hq, hlo⟩ := h16
          have HLO := hid hlo
          have HLT := hid HO5.out.low
          have HO6 := hid (HO5.out.below hg)
          have HB6 := hid (HB5.out.trans (hg.mono HB5.out.size))
          have HX6 := hid ((hg.block _ (block_lt HX.out)).trans HX.out)
          have HQ6 := hid hq
          have HBS := hid (block_lt HX.out)
          have HW61 := hid hg.size
          have hlo5 := HLO.out
          clear hg hq hlo h5 h6
          go_frame
          go_upto_region 7 with (refine wpList_store_obj rfl 59 _ _ rfl q rfl #[.string s2, .bool true, .slice none 0 0] rfl _ _ HQ6.out rfl chSize (by simp [Value.oneCell']) ?_; intro w7 hb7 hc7 hs7; have HQ7 := hid hb7; have HC7 := hid hc7; clear hb7 hc7 hs7)
          have HO7 := hid (HO6.out.keepLt HLT.out HC7.out (fun q' hq => by rw [List.mem_singleton.1 hq]; exact HLO.out))
          have HB7 := hid (HB6.out.trans (HC7.out.below (fun q' hq => by rw [List.mem_singleton.1 hq]; exact Nat.le_trans HB5.out.size HLO.out) HB6.out.size))
          have HX7 := hid ((HC7.out.block _ (block_lt HX6.out) (fun hm => by have h1 := List.mem_singleton.1 hm; have h2 := HBS.out; omega)).trans HX6.out)
          have HZ7 := hid (Nat.le_trans HW61.out HC7.out.size)
          clear HO6 HB6 HX6 HQ6 HC7 HX HO5
          have c1 : w7.cell? ⟨q, 1, none⟩ = some (.bool true) := cell_of_block (j := 1) HQ7.out rfl
          go_upto_region 8 with (fail)
          clear c1
          have hlo := pick_lo x.size 40 (by omega)
          have hhi := pick_hi x.size 40 (by omega)
          obtain ⟨pz, hpz⟩ := Int.eq_ofNat_of_zero_le hlo
          have HPZ := hid hpz
          have hpzl : pz < 40 := by omega
          clear hlo hhi hpz
          refine wp_region_each 7 [.eq (.pointer (some ⟨bs, 1, none⟩)), .eq (.int .i64 x.size), .eq (.int .i64 (pz : Int)), .eq (.pointer (some ⟨bs, 2, none⟩)), .eq (.int .i64 x.n), stBf5 w7.heap.size pz, .eq (.pointer (some ⟨q, 2, none⟩))] (by kernel_rfl) (by kernel_rfl) (by kernel_rfl) (by kernel_rfl) ?_ ?_
          · all_goals
              refine each_5 ?_ ?_ ?_ ?_ ?_ (each_c ?_ (each_c ?_ (each_n)))
              · intro w1 hg Ar seen
                have s7 := seen.sl 7 (.pointer (some ⟨bs, 0, none⟩))
                refine does_plain rfl fun K Q' hK => ?_
                go_simp; exact hK _ _ (Grow.refl _) rfl
              · intro w1 hg Ar seen
                have e0 := seen.de 0 42
                refine does_plain rfl fun K Q' hK => ?_
                have hc : w1.cell? ⟨bs, 1, none⟩ = some (.int .i64 x.size) := cell_of_block (j := 1) ((hg.block _ (block_lt HX7.out)).trans HX7.out) rfl
                go_simp; exact hK _ _ (Grow.refl _) rfl
              · intro w1 hg Ar seen
                have e1 := seen.de 1 43
                refine does_plain rfl fun K Q' hK => ?_
                go_simp
                refine (pick_any x.size 40 _ (by omega) (by omega)).mono ?_
                rintro e u ⟨rfl, rfl⟩
                exact hK _ _ (Grow.refl _) (congrArg (Value.int .i64) HPZ.out)
              · intro w1 hg Ar seen
                have s7 := seen.sl 7 (.pointer (some ⟨bs, 0, none⟩))
                refine does_plain rfl fun K Q' hK => ?_
                go_simp; exact hK _ _ (Grow.refl _) rfl
              · intro w1 hg Ar seen
                have e3 := seen.de 3 45
                refine does_plain rfl fun K Q' hK => ?_
                have hc : w1.cell? ⟨bs, 2, none⟩ = some (.int .i64 x.n) := cell_of_block (j := 2) ((hg.block _ (block_lt HX7.out)).trans HX7.out) rfl
                go_simp; exact hK _ _ (Grow.refl _) rfl
              · intro w1 hg Ar seen
                have e2 := seen.de 2 44
                obtain ⟨v4, e4, h4⟩ := seen.dp 4 46
                rcases h4 with rfl
                refine does_plain rfl fun K Q' hK => ?_
                go_simp
                refine (bytes_any pz x.n _ (by omega)).mono ?_
                rintro e u ⟨a2, c2, rfl, ho2, hb2⟩
                exact hK _ _ hb2 ⟨a2, c2, _, rfl, RdB.of_own ho2, (own_slice ho2).2.1, fun b off sp e => by have h3 := own_at ho2 b off sp e; have h4 := hg.size; omega⟩
              · intro w1 hg Ar seen
                have s8 := seen.sl 8 (.pointer (some ⟨q, 0, none⟩))
                refine does_plain rfl fun K Q' hK => ?_
                go_simp; exact hK _ _ (Grow.refl _) rfl
          intro w1 hg
          refine upon_w' (js := [0, 1, 2, 3, 4, 5, 6]) (by rfl) ?_
          refine upon_e (some 42) (upon_e (some 43) (upon_e (some 44) (upon_e (some 45) (upon_e (some 46) (upon_v (some 47) fun v5 h5 => upon_e (some 48) (upon_n ?_))))))
          obtain ⟨va, vc, vl, rfl, hrd, hvno, hvb⟩ := h5
          have HO8 := hid (HO7.out.below hg)
          have HB8 := hid (HB7.out.trans (hg.mono HB7.out.size))
          have HX8 := hid ((hg.block _ (block_lt HX7.out)).trans HX7.out)
          have HQ8 := hid ((hg.block _ (block_lt HQ7.out)).trans HQ7.out)
          have HQL := hid (block_lt HQ7.out)
          have HRD := hid hrd; have HVN := hid hvno; have HVBL := hid hvb
          have HG8 := hid hg.size
          clear hrd hvno hvb hg HO7 HX7 HQ7 HB7
          have c2 : w1.cell? ⟨q, 2, none⟩ = some (.slice none 0 0) := cell_of_block (j := 2) HQ8.out rfl
          have f1 : ∀ j, w1.frozen? ⟨q, j, none⟩ = false := fun j => frozen_of_block HQ8.out
          go_upto_region 9 with (fail)
          clear c2 f1
          have hx9 := block_setCell (j := 2) HQ8.out (.slice va pz vc)
          have hb9 : Chg [q] w1 (w1.setCell ⟨q, 2, none⟩ (.slice va pz vc)) := (Chg.refl [q] w1).setCell (.inl (by simp)) _
          generalize w1.setCell ⟨q, 2, none⟩ (.slice va pz vc) = w8 at *
          have HQ9 := hid (show w8.heap[q]? = some (.cells #[.string s2, .bool true, .slice va pz vc] 59 (0, 0)) from hx9)
          have HO9 := hid (HO8.out.keepLt HLT.out hb9 (fun q' hq => by rw [List.mem_singleton.1 hq]; exact HLO.out))
          have HB9 := hid (HB8.out.trans (hb9.below (fun q' hq => by rw [List.mem_singleton.1 hq]; exact Nat.le_trans HB5.out.size HLO.out) HB8.out.size))
          have HX9 := hid ((hb9.block _ (block_lt HX8.out) (fun hm => by have h1 := List.mem_singleton.1 hm; have h2 := HBS.out; omega)).trans HX8.out)
          have HRD9 := hid (hb9.rdB HRD.out (fun b off sp e hm => by have h1 := (HVBL.out b off sp e).1; have h2 := List.mem_singleton.1 hm; have h3 := HQL.out; omega))
          have HVB9 := hid (show ∀ b off sp, va = some ⟨b, off, sp⟩ → q < b ∧ w5.heap.size ≤ b ∧ b < w8.heap.size from fun b off sp e => by
            have h1 := HVBL.out b off sp e; have h2 := HQL.out; have h3 := hb9.size; have h4 := HZ7.out
            exact ⟨by omega, by omega, by omega⟩)
          clear hx9 hb9 HQ8 HO8 HB8 HX8 HRD HVBL
          have c9 : w8.cell? ⟨bs, 2, none⟩ = some (.int .i64 x.n) := cell_of_block (j := 2) HX9.out rfl
          go_upto_if 52 with (fail)
          clear c9
          generalize hb9 : (x.n.tmod 41 == 40) = b9
          clear hb9
          cases b9 with
          | true =>
            have c4 : w8.cell? ⟨bs, 4, none⟩ = some (.string x.odd) := cell_of_block (j := 4) HX9.out rfl
            have c0 : w8.cell? ⟨q, 0, none⟩ = some (.string s2) := cell_of_block (j := 0) HQ9.out rfl
            have f1 : ∀ j, w8.frozen? ⟨q, j, none⟩ = false := fun j => frozen_of_block HQ9.out
            go_upto_region 11 with (fail)
            clear c4 c0 f1
            have hx9 := block_setCell (j := 0) HQ9.out (.string x.odd)
            have hb9 : Chg [q] w8 (w8.setCell ⟨q, 0, none⟩ (.string x.odd)) := (Chg.refl [q] w8).setCell (.inl (by simp)) _
            generalize w8.setCell ⟨q, 0, none⟩ (.string x.odd) = w9 at *
            obtain ⟨y, hy⟩ : ∃ y : ChD, y = ⟨x.odd, true, va, pz, vc, vl⟩ := ⟨_, rfl⟩
            have HY := hid hy
            have HXB := hid (show w9.heap[q]? = some (.cells y.cells.toArray 59 (0, 0)) from by rw [HY.out]; exact hx9)
            have HOW := hid (HO9.out.keepLt HLT.out hb9 (fun q' hq => by rw [List.mem_singleton.1 hq]; exact HLO.out))
            have HBW := hid (HB9.out.trans (hb9.below (fun q' hq => by rw [List.mem_singleton.1 hq]; exact Nat.le_trans HB5.out.size HLO.out) HB9.out.size))
            have HXO := hid (show y.ok w9 from by rw [HY.out]; exact ⟨hb9.rdB HRD9.out (fun b off sp e hm => by have h1 := HVB9.out b off sp e; have h2 := List.mem_singleton.1 hm; omega), HVN.out, by show pz ≤ _; omega, HOD.out⟩)
            have HVB := hid (show ∀ b off sp, y.va = some ⟨b, off, sp⟩ → w.heap.size ≤ b ∧ b < w9.heap.size ∧ (Sl.mk oa on oc).v.ownBlock ≠ some b from by
              rw [HY.out]
              intro b off sp e
              have h1 := HVB9.out b off sp e
              have h2 := hb9.size; have h3 := HB5.out.size
              exact ⟨by omega, by omega, fun he => by have := HLT.out.1 b he; omega⟩)
            clear hy hx9 hb9 HY
            have HGA := hid ((Below.refl w9.heap.size w9).alloc (Nat.le_refl _) (.cells y.cells.toArray 59))
            have HOA := hid (HOW.out.below HGA.out)
            go_wp2_with (first | (refine wpList_load_row rfl 59 _ rfl q rfl _ _ _ _ HXB.out Try.underlying59 rfl chSize ?_) | (refine wpList_buildSlice rfl 23 59 1 _ rfl y.cells.toArray i _ Try.underlying23 hi hz0 (by rw [hz1]; decide) (by rw [hz1]; decide) (by rw [hz1]; kernel_rfl) ?_) | (at_builtin; refine haltI ?_))
            refine haltO ?_
            refine wpList_append_c rfl _ _ 23 rfl w.heap.size 59 i _ 3 48 Try.underlying23 hi hz0 hz1 hz2 rfl (by decide) (.slice oa on oc) on _ rfl HOA.out.own (some ⟨w9.heap.size, 0, none⟩) 1 1 y.cells rfl (RdC.new _ _ _ _ y.cells (by simp) 3 rfl _ rfl) (fun u hu => by have := cells_one [y] u; rw [List.flatMap_cons, List.flatMap_nil, List.append_nil] at this; exact this hu) (fun hx => by cases hx) (by unfold maxLen; omega) (by omega) (by have h1 := HBW.out.size; have h2 := HGA.out.size; omega) ?_
            intro a' c' w10 hown hgw hfr
            have hap := OwnC.app (s := ⟨oa, on, oc⟩) HOW.out HGA.out HXO.out HVB.out hown hgw hfr
            have hb10 : Chg ((Value.slice oa on oc).ownBlock.toList) w9 w10 := (Chg.of_below HGA.out _).grown hgw (fun k hk => .inl (by rw [hk]; simp))
            have HRR : LsL w n (.slice a' (on + 1) c') (.int .i64 ((k : Int) + 1)) w10 := ⟨⟨k + 1, on + 1, a', c', xs ++ [y], rfl, rfl, by omega, k1, hap, HBW.out.trans (hb10.below (fun q hq => (HOW.out.own.lt q (by simpa using hq)).1) HBW.out.size)⟩⟩
            clear hown hgw hfr hap hb10
            go_wp2_with fail
            go_roundw
            case rel => first | exact HRR | ((repeat apply Exists.intro); exact HRR) | ((repeat apply Exists.intro); exact ⟨HRR, rfl⟩)
            case measure => (simp [intOf] <;> omega)
          | false =>
            go_upto_region 11 with (fail)
            obtain ⟨y, hy⟩ : ∃ y : ChD, y = ⟨s2, true, va, pz, vc, vl⟩ := ⟨_, rfl⟩
            have HY := hid hy
            have HXB := hid (show w8.heap[q]? = some (.cells y.cells.toArray 59 (0, 0)) from by rw [HY.out]; exact HQ9.out)
            have HOW := HO9; have HBW := HB9
            have HXO := hid (show y.ok w8 from by rw [HY.out]; exact ⟨HRD9.out, HVN.out, by show pz ≤ _; omega, by show s2.size ≤ _; omega⟩)
            have HVB := hid (show ∀ b off sp, y.va = some ⟨b, off, sp⟩ → w.heap.size ≤ b ∧ b < w8.heap.size ∧ (Sl.mk oa on oc).v.ownBlock ≠ some b from by
              rw [HY.out]
              intro b off sp e
              have h1 := HVB9.out b off sp e
              have h3 := HB5.out.size
              exact ⟨by omega, by omega, fun he => by have := HLT.out.1 b he; omega⟩)
            clear hy HY
            have HGA := hid ((Below.refl w8.heap.size w8).alloc (Nat.le_refl _) (.cells y.cells.toArray 59))
            have HOA := hid (HOW.out.below HGA.out)
            go_wp2_with (first | (refine wpList_load_row rfl 59 _ rfl q rfl _ _ _ _ HXB.out Try.underlying59 rfl chSize ?_) | (refine wpList_buildSlice rfl 23 59 1 _ rfl y.cells.toArray i _ Try.underlying23 hi hz0 (by rw [hz1]; decide) (by rw [hz1]; decide) (by rw [hz1]; kernel_rfl) ?_) | (at_builtin; refine haltI ?_))
            refine haltO ?_
            refine wpList_append_c rfl _ _ 23 rfl w.heap.size 59 i _ 3 48 Try.underlying23 hi hz0 hz1 hz2 rfl (by decide) (.slice oa on oc) on _ rfl HOA.out.own (some ⟨w8.heap.size, 0, none⟩) 1 1 y.cells rfl (RdC.new _ _ _ _ y.cells (by simp) 3 rfl _ rfl) (fun u hu => by have := cells_one [y] u; rw [List.flatMap_cons, List.flatMap_nil, List.append_nil] at this; exact this hu) (fun hx => by cases hx) (by unfold maxLen; omega) (by omega) (by have h1 := HBW.out.size; have h2 := HGA.out.size; omega) ?_
            intro a' c' w10 hown hgw hfr
            have hap := OwnC.app (s := ⟨oa, on, oc⟩) HOW.out HGA.out HXO.out HVB.out hown hgw hfr
            have hb10 : Chg ((Value.slice oa on oc).ownBlock.toList) w8 w10 := (Chg.of_below HGA.out _).grown hgw (fun k hk => .inl (by rw [hk]; simp))
            have HRR : LsL w n (.slice a' (on + 1) c') (.int .i64 ((k : Int) + 1)) w10 := ⟨⟨k + 1, on + 1, a', c', xs ++ [y], rfl, rfl, by omega, k1, hap, HBW.out.trans (hb10.below (fun q hq => (HOW.out.own.lt q (by simpa using hq)).1) HBW.out.size)⟩⟩
            clear hown hgw hfr hap hb10
            go_wp2_with fail
            go_roundw
            case rel => first | exact HRR | ((repeat apply Exists.intro); exact HRR) | ((repeat apply Exists.intro); exact ⟨HRR, rfl⟩)
            case measure => (simp [intOf] <;> omega)
        | false =>
          cases h2 with
          | true =>
            refine wp_region_each 17 [.eq (.pointer (some ⟨bs, 0, none⟩)), .eq (.int .i64 x.key), .eq (.int .i64 (pk : Int)), .eq (.int .i64 (97 + (pk : Int))), .eq (.int .u8 ((zb.toNat : Nat) : Int)), stBy5, stKy, .eq (.pointer (some ⟨bs, 3, none⟩)), .eq (.bool false), .eq (.bool false), .eq (.pointer (some ⟨bs, 2, none⟩)), .eq (.int .i64 x.n), .eq (.int .i64 (x.n.tmod 3)), .eq (.bool true), .eq (.bool true), stCh true, stBx w5.heap.size] (by kernel_rfl) (by kernel_rfl) (by kernel_rfl) (by kernel_rfl) ?_ ?_
            · all_goals
                refine each_5 ?_ ?_ ?_ ?_ ?_ (each_5 ?_ ?_ ?_ ?_ ?_ (each_5 ?_ ?_ ?_ ?_ ?_ (each_c ?_ (each_c ?_ (each_n)))))
                · intro w1 hg Ar seen
                  have s7 := seen.sl 7 (.pointer (some ⟨bs, 0, none⟩))
                  refine does_plain rfl fun K Q' hK => ?_
                  go_simp; exact hK _ _ (Grow.refl _) rfl
                · intro w1 hg Ar seen
                  have e0 := seen.de 0 24
                  refine does_plain rfl fun K Q' hK => ?_
                  have hc : w1.cell? ⟨bs, 0, none⟩ = some (.int .i64 x.key) := cell_of_block (j := 0) ((hg.block _ (block_lt HX.out)).trans HX.out) rfl
                  go_simp; exact hK _ _ (Grow.refl _) rfl
                · intro w1 hg Ar seen
                  have e1 := seen.de 1 25
                  refine does_plain rfl fun K Q' hK => ?_
                  go_simp
                  refine (pick_any x.key 7 _ (by omega) (by omega)).mono ?_
                  rintro e u ⟨rfl, rfl⟩
                  exact hK _ _ (Grow.refl _) (congrArg (Value.int .i64) HPK.out)
                · intro w1 hg Ar seen
                  have e2 := seen.de 2 26
                  refine does_plain rfl fun K Q' hK => ?_
                  have hw : IntKind.i64.wrap (97 + (pk : Int)) = 97 + (pk : Int) := IntWalk.i64_in _ (by omega)
                  go_simp; exact hK _ _ (Grow.refl _) rfl
                · intro w1 hg Ar seen
                  have e3 := seen.de 3 27
                  refine does_plain rfl fun K Q' hK => ?_
                  have hs := HZ.out
                  go_simp; exact hK _ _ (Grow.refl _) rfl
                · intro w1 hg Ar seen
                  have e4 := seen.de 4 28
                  refine does_plain rfl fun K Q' hK => ?_
                  go_simp
                  exact hK _ _ ((Below.refl _ _).alloc (Nat.le_refl _) _) ⟨_, zb, rfl, block_new _ _⟩
                · intro w1 hg Ar seen
                  obtain ⟨v5, e5, h5⟩ := seen.dp 5 29
                  refine does_plain rfl fun K Q' hK => ?_
                  obtain ⟨q2, b2, rfl, h4⟩ := h5
                  have kc := run_bytes_str (P := Try.prog) (rdB_one h4) 1 24 9 5 Try.underlying24 Try.underlying5 Try.underlying9
                  go_simp
                  exact hK _ _ (Grow.refl _) ⟨_, rfl, Nat.le_refl _⟩
                · intro w1 hg Ar seen
                  have s7 := seen.sl 7 (.pointer (some ⟨bs, 0, none⟩))
                  refine does_plain rfl fun K Q' hK => ?_
                  go_simp; exact hK _ _ (Grow.refl _) rfl
                · intro w1 hg Ar seen
                  have e7 := seen.de 7 31
                  refine does_plain rfl fun K Q' hK => ?_
                  have hc : w1.cell? ⟨bs, 3, none⟩ = some (.bool false) := (cell_of_block (j := 3) ((hg.block _ (block_lt HX.out)).trans HX.out) rfl : w1.cell? ⟨bs, 3, none⟩ = some (.bool x.has)).trans (by rw [HH1.out])
                  go_simp; exact hK _ _ (Grow.refl _) rfl
                · intro w1 hg Ar seen
                  have e8 := seen.de 8 32
                  refine does_plain rfl fun K Q' hK => ?_
                  go_simp; exact hK _ _ (Grow.refl _) rfl
                · intro w1 hg Ar seen
                  have e9 := seen.de 9 33
                  have s7 := seen.sl 7 (.pointer (some ⟨bs, 0, none⟩))
                  refine does_on rfl (by kernel_rfl) e9 fun K Q' hK => ?_
                  clear e9
                  go_simp; exact hK _ _ (Grow.refl _) rfl
                · intro w1 hg Ar seen
                  have e10 := seen.de 10 34
                  have e9 := seen.de 9 33
                  refine does_on rfl (by kernel_rfl) e9 fun K Q' hK => ?_
                  clear e9
                  have hc : w1.cell? ⟨bs, 2, none⟩ = some (.int .i64 x.n) := cell_of_block (j := 2) ((hg.block _ (block_lt HX.out)).trans HX.out) rfl
                  go_simp; exact hK _ _ (Grow.refl _) rfl
                · intro w1 hg Ar seen
                  have e11 := seen.de 11 35
                  have e9 := seen.de 9 33
                  refine does_on rfl (by kernel_rfl) e9 fun K Q' hK => ?_
                  clear e9
                  go_simp; exact hK _ _ (Grow.refl _) rfl
                · intro w1 hg Ar seen
                  have e12 := seen.de 12 36
                  have e9 := seen.de 9 33
                  refine does_on rfl (by kernel_rfl) e9 fun K Q' hK => ?_
                  clear e9
                  have hs := HH2.out
                  go_simp; exact hK _ _ (Grow.refl _) rfl
                · intro w1 hg Ar seen
                  have e9 := seen.de 9 33
                  have e13 := seen.de 13 37
                  refine does_plain rfl fun K Q' hK => ?_
                  go_simp; exact hK _ _ (Grow.refl _) rfl
                · intro w1 hg Ar seen
                  obtain ⟨v6, e6, h6⟩ := seen.dp 6 30
                  have e14 := seen.de 14 38
                  refine does_plain rfl fun K Q' hK => ?_
                  obtain ⟨s2, rfl, h4⟩ := h6
                  go_simp
                  exact hK _ _ (Grow.refl _) ⟨s2, rfl, h4⟩
                · intro w1 hg Ar seen
                  refine does_plain rfl fun K Q' hK => ?_
                  refine wp_alloc_obj 59 rfl _ chZero ?_
                  exact hK _ _ ((Below.refl _ _).alloc (Nat.le_refl _) _) ⟨_, rfl, block_new _ _, hg.size⟩
            intro w1 hg
            refine upon_w' (js := [0, 1, 2, 3, 4, 5, 6, 7, 8, 9, 10, 11, 12, 13, 14, 15, 16]) (by rfl) ?_
            refine upon_e (some 24) (upon_e (some 25) (upon_e (some 26) (upon_e (some 27) (upon_e (some 28) (upon_v (some 29) fun v5 h5 => upon_v (some 30) fun v6 h6 => upon_e (some 31) (upon_e (some 32) (upon_e (some 33) (upon_e (some 34) (upon_e (some 35) (upon_e (some 36) (upon_e (some 37) (upon_e (some 38) (upon_v (some 39) fun v15 h15 => upon_v (some 8) fun v16 h16 => upon_n ?_)))))))))))))
            obtain ⟨s2, rfl, hs2⟩ := h15
            obtain ⟨q, rfl, hq, hlo⟩ := h16
            have HLO := hid hlo
            have HLT := hid HO5.out.low
            have HO6 := hid (HO5.out.below hg)
            have HB6 := hid (HB5.out.trans (hg.mono HB5.out.size))
            have HX6 := hid ((hg.block _ (block_lt HX.out)).trans HX.out)
            have HQ6 := hid hq
            have HBS := hid (block_lt HX.out)
            have HW61 := hid hg.size
            have hlo5 := HLO.out
            clear hg hq hlo h5 h6
            go_frame
            go_upto_region 7 with (refine wpList_store_obj rfl 59 _ _ rfl q rfl #[.string s2, .bool true, .slice none 0 0] rfl _ _ HQ6.out rfl chSize (by simp [Value.oneCell']) ?_; intro w7 hb7 hc7 hs7; have HQ7 := hid hb7; have HC7 := hid hc7; clear hb7 hc7 hs7)
            have HO7 := hid (HO6.out.keepLt HLT.out HC7.out (fun q' hq => by rw [List.mem_singleton.1 hq]; exact HLO.out))
            have HB7 := hid (HB6.out.trans (HC7.out.below (fun q' hq => by rw [List.mem_singleton.1 hq]; exact Nat.le_trans HB5.out.size HLO.out) HB6.out.size))
            have HX7 := hid ((HC7.out.block _ (block_lt HX6.out) (fun hm => by have h1 := List.mem_singleton.1 hm; have h2 := HBS.out; omega)).trans HX6.out)
            have HZ7 := hid (Nat.le_trans HW61.out HC7.out.size)
            clear HO6 HB6 HX6 HQ6 HC7 HX HO5
            have c1 : w7.cell? ⟨q, 1, none⟩ = some (.bool true) := cell_of_block (j := 1) HQ7.out rfl
            go_upto_region 8 with (fail)
            clear c1
            have hlo := pick_lo x.size 40 (by omega)
            have hhi := pick_hi x.size 40 (by omega)
            obtain ⟨pz, hpz⟩ := Int.eq_ofNat_of_zero_le hlo
            have HPZ := hid hpz
            have hpzl : pz < 40 := by omega
            clear hlo hhi hpz
            refine wp_region_each 7 [.eq (.pointer (some ⟨bs, 1, none⟩)), .eq (.int .i64 x.size), .eq (.int .i64 (pz : Int)), .eq (.pointer (some ⟨bs, 2, none⟩)), .eq (.int .i64 x.n), stBf5 w7.heap.size pz, .eq (.pointer (some ⟨q, 2, none⟩))] (by kernel_rfl) (by kernel_rfl) (by kernel_rfl) (by kernel_rfl) ?_ ?_
            · all_goals
                refine each_5 ?_ ?_ ?_ ?_ ?_ (each_c ?_ (each_c ?_ (each_n)))
                · intro w1 hg Ar seen
                  have s7 := seen.sl 7 (.pointer (some ⟨bs, 0, none⟩))
                  refine does_plain rfl fun K Q' hK => ?_
                  go_simp; exact hK _ _ (Grow.refl _) rfl
                · intro w1 hg Ar seen
                  have e0 := seen.de 0 42
                  refine does_plain rfl fun K Q' hK => ?_
                  have hc : w1.cell? ⟨bs, 1, none⟩ = some (.int .i64 x.size) := cell_of_block (j := 1) ((hg.block _ (block_lt HX7.out)).trans HX7.out) rfl
                  go_simp; exact hK _ _ (Grow.refl _) rfl
                · intro w1 hg Ar seen
                  have e1 := seen.de 1 43
                  refine does_plain rfl fun K Q' hK => ?_
                  go_simp
                  refine (pick_any x.size 40 _ (by omega) (by omega)).mono ?_
                  rintro e u ⟨rfl, rfl⟩
                  exact hK _ _ (Grow.refl _) (congrArg (Value.int .i64) HPZ.out)
                · intro w1 hg Ar seen
                  have s7 := seen.sl 7 (.pointer (some ⟨bs, 0, none⟩))
                  refine does_plain rfl fun K Q' hK => ?_
                  go_simp; exact hK _ _ (Grow.refl _) rfl
                · intro w1 hg Ar seen
                  have e3 := seen.de 3 45
                  refine does_plain rfl fun K Q' hK => ?_
                  have hc : w1.cell? ⟨bs, 2, none⟩ = some (.int .i64 x.n) := cell_of_block (j := 2) ((hg.block _ (block_lt HX7.out)).trans HX7.out) rfl
                  go_simp; exact hK _ _ (Grow.refl _) rfl
                · intro w1 hg Ar seen
                  have e2 := seen.de 2 44
                  obtain ⟨v4, e4, h4⟩ := seen.dp 4 46
                  rcases h4 with rfl
                  refine does_plain rfl fun K Q' hK => ?_
                  go_simp
                  refine (bytes_any pz x.n _ (by omega)).mono ?_
                  rintro e u ⟨a2, c2, rfl, ho2, hb2⟩
                  exact hK _ _ hb2 ⟨a2, c2, _, rfl, RdB.of_own ho2, (own_slice ho2).2.1, fun b off sp e => by have h3 := own_at ho2 b off sp e; have h4 := hg.size; omega⟩
                · intro w1 hg Ar seen
                  have s8 := seen.sl 8 (.pointer (some ⟨q, 0, none⟩))
                  refine does_plain rfl fun K Q' hK => ?_
                  go_simp; exact hK _ _ (Grow.refl _) rfl
            intro w1 hg
            refine upon_w' (js := [0, 1, 2, 3, 4, 5, 6]) (by rfl) ?_
            refine upon_e (some 42) (upon_e (some 43) (upon_e (some 44) (upon_e (some 45) (upon_e (some 46) (upon_v (some 47) fun v5 h5 => upon_e (some 48) (upon_n ?_))))))
            obtain ⟨va, vc, vl, rfl, hrd, hvno, hvb⟩ := h5
            have HO8 := hid (HO7.out.below hg)
            have HB8 := hid (HB7.out.trans (hg.mono HB7.out.size))
            have HX8 := hid ((hg.block _ (block_lt HX7.out)).trans HX7.out)
            have HQ8 := hid ((hg.block _ (block_lt HQ7.out)).trans HQ7.out)
            have HQL := hid (block_lt HQ7.out)
            have HRD := hid hrd; have HVN := hid hvno; have HVBL := hid hvb
            have HG8 := hid hg.size
            clear hrd hvno hvb hg HO7 HX7 HQ7 HB7
            have c2 : w1.cell? ⟨q, 2, none⟩ = some (.slice none 0 0) := cell_of_block (j := 2) HQ8.out rfl
            have f1 : ∀ j, w1.frozen? ⟨q, j, none⟩ = false := fun j => frozen_of_block HQ8.out
            go_upto_region 9 with (fail)
            clear c2 f1
            have hx9 := block_setCell (j := 2) HQ8.out (.slice va pz vc)
            have hb9 : Chg [q] w1 (w1.setCell ⟨q, 2, none⟩ (.slice va pz vc)) := (Chg.refl [q] w1).setCell (.inl (by simp)) _
            generalize w1.setCell ⟨q, 2, none⟩ (.slice va pz vc) = w8 at *
            have HQ9 := hid (show w8.heap[q]? = some (.cells #[.string s2, .bool true, .slice va pz vc] 59 (0, 0)) from hx9)
            have HO9 := hid (HO8.out.keepLt HLT.out hb9 (fun q' hq => by rw [List.mem_singleton.1 hq]; exact HLO.out))
            have HB9 := hid (HB8.out.trans (hb9.below (fun q' hq => by rw [List.mem_singleton.1 hq]; exact Nat.le_trans HB5.out.size HLO.out) HB8.out.size))
            have HX9 := hid ((hb9.block _ (block_lt HX8.out) (fun hm => by have h1 := List.mem_singleton.1 hm; have h2 := HBS.out; omega)).trans HX8.out)
            have HRD9 := hid (hb9.rdB HRD.out (fun b off sp e hm => by have h1 := (HVBL.out b off sp e).1; have h2 := List.mem_singleton.1 hm; have h3 := HQL.out; omega))
            have HVB9 := hid (show ∀ b off sp, va = some ⟨b, off, sp⟩ → q < b ∧ w5.heap.size ≤ b ∧ b < w8.heap.size from fun b off sp e => by
              have h1 := HVBL.out b off sp e; have h2 := HQL.out; have h3 := hb9.size; have h4 := HZ7.out
              exact ⟨by omega, by omega, by omega⟩)
            clear hx9 hb9 HQ8 HO8 HB8 HX8 HRD HVBL
            have c9 : w8.cell? ⟨bs, 2, none⟩ = some (.int .i64 x.n) := cell_of_block (j := 2) HX9.out rfl
            go_upto_if 52 with (fail)
            clear c9
            generalize hb9 : (x.n.tmod 41 == 40) = b9
            clear hb9
            cases b9 with
            | true =>
              have c4 : w8.cell? ⟨bs, 4, none⟩ = some (.string x.odd) := cell_of_block (j := 4) HX9.out rfl
              have c0 : w8.cell? ⟨q, 0, none⟩ = some (.string s2) := cell_of_block (j := 0) HQ9.out rfl
              have f1 : ∀ j, w8.frozen? ⟨q, j, none⟩ = false := fun j => frozen_of_block HQ9.out
              go_upto_region 11 with (fail)
              clear c4 c0 f1
              have hx9 := block_setCell (j := 0) HQ9.out (.string x.odd)
              have hb9 : Chg [q] w8 (w8.setCell ⟨q, 0, none⟩ (.string x.odd)) := (Chg.refl [q] w8).setCell (.inl (by simp)) _
              generalize w8.setCell ⟨q, 0, none⟩ (.string x.odd) = w9 at *
              obtain ⟨y, hy⟩ : ∃ y : ChD, y = ⟨x.odd, true, va, pz, vc, vl⟩ := ⟨_, rfl⟩
              have HY := hid hy
              have HXB := hid (show w9.heap[q]? = some (.cells y.cells.toArray 59 (0, 0)) from by rw [HY.out]; exact hx9)
              have HOW := hid (HO9.out.keepLt HLT.out hb9 (fun q' hq => by rw [List.mem_singleton.1 hq]; exact HLO.out))
              have HBW := hid (HB9.out.trans (hb9.below (fun q' hq => by rw [List.mem_singleton.1 hq]; exact Nat.le_trans HB5.out.size HLO.out) HB9.out.size))
              have HXO := hid (show y.ok w9 from by rw [HY.out]; exact ⟨hb9.rdB HRD9.out (fun b off sp e hm => by have h1 := HVB9.out b off sp e; have h2 := List.mem_singleton.1 hm; omega), HVN.out, by show pz ≤ _; omega, HOD.out⟩)
              have HVB := hid (show ∀ b off sp, y.va = some ⟨b, off, sp⟩ → w.heap.size ≤ b ∧ b < w9.heap.size ∧ (Sl.mk oa on oc).v.ownBlock ≠ some b from by
                rw [HY.out]
                intro b off sp e
                have h1 := HVB9.out b off sp e
                have h2 := hb9.size; have h3 := HB5.out.size
                exact ⟨by omega, by omega, fun he => by have := HLT.out.1 b he; omega⟩)
              clear hy hx9 hb9 HY
              have HGA := hid ((Below.refl w9.heap.size w9).alloc (Nat.le_refl _) (.cells y.cells.toArray 59))
              have HOA := hid (HOW.out.below HGA.out)
              go_wp2_with (first | (refine wpList_load_row rfl 59 _ rfl q rfl _ _ _ _ HXB.out Try.underlying59 rfl chSize ?_) | (refine wpList_buildSlice rfl 23 59 1 _ rfl y.cells.toArray i _ Try.underlying23 hi hz0 (by rw [hz1]; decide) (by rw [hz1]; decide) (by rw [hz1]; kernel_rfl) ?_) | (at_builtin; refine haltI ?_))
              refine haltO ?_
              refine wpList_append_c rfl _ _ 23 rfl w.heap.size 59 i _ 3 48 Try.underlying23 hi hz0 hz1 hz2 rfl (by decide) (.slice oa on oc) on _ rfl HOA.out.own (some ⟨w9.heap.size, 0, none⟩) 1 1 y.cells rfl (RdC.new _ _ _ _ y.cells (by simp) 3 rfl _ rfl) (fun u hu => by have := cells_one [y] u; rw [List.flatMap_cons, List.flatMap_nil, List.append_nil] at this; exact this hu) (fun hx => by cases hx) (by unfold maxLen; omega) (by omega) (by have h1 := HBW.out.size; have h2 := HGA.out.size; omega) ?_
              intro a' c' w10 hown hgw hfr
              have hap := OwnC.app (s := ⟨oa, on, oc⟩) HOW.out HGA.out HXO.out HVB.out hown hgw hfr
              have hb10 : Chg ((Value.slice oa on oc).ownBlock.toList) w9 w10 := (Chg.of_below HGA.out _).grown hgw (fun k hk => .inl (by rw [hk]; simp))
              have HRR : LsL w n (.slice a' (on + 1) c') (.int .i64 ((k : Int) + 1)) w10 := ⟨⟨k + 1, on + 1, a', c', xs ++ [y], rfl, rfl, by omega, k1, hap, HBW.out.trans (hb10.below (fun q hq => (HOW.out.own.lt q (by simpa using hq)).1) HBW.out.size)⟩⟩
              clear hown hgw hfr hap hb10
              go_wp2_with fail
              go_roundw
              case rel => first | exact HRR | ((repeat apply Exists.intro); exact HRR) | ((repeat apply Exists.intro); exact ⟨HRR, rfl⟩)
              case measure => (simp [intOf] <;> omega)
            | false =>
              go_upto_region 11 with (fail)
              obtain ⟨y, hy⟩ : ∃ y : ChD, y = ⟨s2, true, va, pz, vc, vl⟩ := ⟨_, rfl⟩
              have HY := hid hy
              have HXB := hid (show w8.heap[q]? = some (.cells y.cells.toArray 59 (0, 0)) from by rw [HY.out]; exact HQ9.out)
              have HOW := HO9; have HBW := HB9
              have HXO := hid (show y.ok w8 from by rw [HY.out]; exact ⟨HRD9.out, HVN.out, by show pz ≤ _; omega, by show s2.size ≤ _; omega⟩)
              have HVB := hid (show ∀ b off sp, y.va = some ⟨b, off, sp⟩ → w.heap.size ≤ b ∧ b < w8.heap.size ∧ (Sl.mk oa on oc).v.ownBlock ≠ some b from by
                rw [HY.out]
                intro b off sp e
                have h1 := HVB9.out b off sp e
                have h3 := HB5.out.size
                exact ⟨by omega, by omega, fun he => by have := HLT.out.1 b he; omega⟩)
              clear hy HY
              have HGA := hid ((Below.refl w8.heap.size w8).alloc (Nat.le_refl _) (.cells y.cells.toArray 59))
              have HOA := hid (HOW.out.below HGA.out)
              go_wp2_with (first | (refine wpList_load_row rfl 59 _ rfl q rfl _ _ _ _ HXB.out Try.underlying59 rfl chSize ?_) | (refine wpList_buildSlice rfl 23 59 1 _ rfl y.cells.toArray i _ Try.underlying23 hi hz0 (by rw [hz1]; decide) (by rw [hz1]; decide) (by rw [hz1]; kernel_rfl) ?_) | (at_builtin; refine haltI ?_))
              refine haltO ?_
              refine wpList_append_c rfl _ _ 23 rfl w.heap.size 59 i _ 3 48 Try.underlying23 hi hz0 hz1 hz2 rfl (by decide) (.slice oa on oc) on _ rfl HOA.out.own (some ⟨w8.heap.size, 0, none⟩) 1 1 y.cells rfl (RdC.new _ _ _ _ y.cells (by simp) 3 rfl _ rfl) (fun u hu => by have := cells_one [y] u; rw [List.flatMap_cons, List.flatMap_nil, List.append_nil] at this; exact this hu) (fun hx => by cases hx) (by unfold maxLen; omega) (by omega) (by have h1 := HBW.out.size; have h2 := HGA.out.size; omega) ?_
              intro a' c' w10 hown hgw hfr
              have hap := OwnC.app (s := ⟨oa, on, oc⟩) HOW.out HGA.out HXO.out HVB.out hown hgw hfr
              have hb10 : Chg ((Value.slice oa on oc).ownBlock.toList) w8 w10 := (Chg.of_below HGA.out _).grown hgw (fun k hk => .inl (by rw [hk]; simp))
              have HRR : LsL w n (.slice a' (on + 1) c') (.int .i64 ((k : Int) + 1)) w10 := ⟨⟨k + 1, on + 1, a', c', xs ++ [y], rfl, rfl, by omega, k1, hap, HBW.out.trans (hb10.below (fun q hq => (HOW.out.own.lt q (by simpa using hq)).1) HBW.out.size)⟩⟩
              clear hown hgw hfr hap hb10
              go_wp2_with fail
              go_roundw
              case rel => first | exact HRR | ((repeat apply Exists.intro); exact HRR) | ((repeat apply Exists.intro); exact ⟨HRR, rfl⟩)
              case measure => (simp [intOf] <;> omega)
          | false =>
            refine wp_region_each 17 [.eq (.pointer (some ⟨bs, 0, none⟩)), .eq (.int .i64 x.key), .eq (.int .i64 (pk : Int)), .eq (.int .i64 (97 + (pk : Int))), .eq (.int .u8 ((zb.toNat : Nat) : Int)), stBy5, stKy, .eq (.pointer (some ⟨bs, 3, none⟩)), .eq (.bool false), .eq (.bool false), .eq (.pointer (some ⟨bs, 2, none⟩)), .eq (.int .i64 x.n), .eq (.int .i64 (x.n.tmod 3)), .eq (.bool false), .eq (.bool false), stCh false, stBx w5.heap.size] (by kernel_rfl) (by kernel_rfl) (by kernel_rfl) (by kernel_rfl) ?_ ?_
            · all_goals
                refine each_5 ?_ ?_ ?_ ?_ ?_ (each_5 ?_ ?_ ?_ ?_ ?_ (each_5 ?_ ?_ ?_ ?_ ?_ (each_c ?_ (each_c ?_ (each_n)))))
                · intro w1 hg Ar seen
                  have s7 := seen.sl 7 (.pointer (some ⟨bs, 0, none⟩))
                  refine does_plain rfl fun K Q' hK => ?_
                  go_simp; exact hK _ _ (Grow.refl _) rfl
                · intro w1 hg Ar seen
                  have e0 := seen.de 0 24
                  refine does_plain rfl fun K Q' hK => ?_
                  have hc : w1.cell? ⟨bs, 0, none⟩ = some (.int .i64 x.key) := cell_of_block (j := 0) ((hg.block _ (block_lt HX.out)).trans HX.out) rfl
                  go_simp; exact hK _ _ (Grow.refl _) rfl
                · intro w1 hg Ar seen
                  have e1 := seen.de 1 25
                  refine does_plain rfl fun K Q' hK => ?_
                  go_simp
                  refine (pick_any x.key 7 _ (by omega) (by omega)).mono ?_
                  rintro e u ⟨rfl, rfl⟩
                  exact hK _ _ (Grow.refl _) (congrArg (Value.int .i64) HPK.out)
                · intro w1 hg Ar seen
                  have e2 := seen.de 2 26
                  refine does_plain rfl fun K Q' hK => ?_
                  have hw : IntKind.i64.wrap (97 + (pk : Int)) = 97 + (pk : Int) := IntWalk.i64_in _ (by omega)
                  go_simp; exact hK _ _ (Grow.refl _) rfl
                · intro w1 hg Ar seen
                  have e3 := seen.de 3 27
                  refine does_plain rfl fun K Q' hK => ?_
                  have hs := HZ.out
                  go_simp; exact hK _ _ (Grow.refl _) rfl
                · intro w1 hg Ar seen
                  have e4 := seen.de 4 28
                  refine does_plain rfl fun K Q' hK => ?_
                  go_simp
                  exact hK _ _ ((Below.refl _ _).alloc (Nat.le_refl _) _) ⟨_, zb, rfl, block_new _ _⟩
                · intro w1 hg Ar seen
                  obtain ⟨v5, e5, h5⟩ := seen.dp 5 29
                  refine does_plain rfl fun K Q' hK => ?_
                  obtain ⟨q2, b2, rfl, h4⟩ := h5
                  have kc := run_bytes_str (P := Try.prog) (rdB_one h4) 1 24 9 5 Try.underlying24 Try.underlying5 Try.underlying9
                  go_simp
                  exact hK _ _ (Grow.refl _) ⟨_, rfl, Nat.le_refl _⟩
                · intro w1 hg Ar seen
                  have s7 := seen.sl 7 (.pointer (some ⟨bs, 0, none⟩))
                  refine does_plain rfl fun K Q' hK => ?_
                  go_simp; exact hK _ _ (Grow.refl _) rfl
                · intro w1 hg Ar seen
                  have e7 := seen.de 7 31
                  refine does_plain rfl fun K Q' hK => ?_
                  have hc : w1.cell? ⟨bs, 3, none⟩ = some (.bool false) := (cell_of_block (j := 3) ((hg.block _ (block_lt HX.out)).trans HX.out) rfl : w1.cell? ⟨bs, 3, none⟩ = some (.bool x.has)).trans (by rw [HH1.out])
                  go_simp; exact hK _ _ (Grow.refl _) rfl
                · intro w1 hg Ar seen
                  have e8 := seen.de 8 32
                  refine does_plain rfl fun K Q' hK => ?_
                  go_simp; exact hK _ _ (Grow.refl _) rfl
                · intro w1 hg Ar seen
                  have e9 := seen.de 9 33
                  have s7 := seen.sl 7 (.pointer (some ⟨bs, 0, none⟩))
                  refine does_on rfl (by kernel_rfl) e9 fun K Q' hK => ?_
                  clear e9
                  go_simp; exact hK _ _ (Grow.refl _) rfl
                · intro w1 hg Ar seen
                  have e10 := seen.de 10 34
                  have e9 := seen.de 9 33
                  refine does_on rfl (by kernel_rfl) e9 fun K Q' hK => ?_
                  clear e9
                  have hc : w1.cell? ⟨bs, 2, none⟩ = some (.int .i64 x.n) := cell_of_block (j := 2) ((hg.block _ (block_lt HX.out)).trans HX.out) rfl
                  go_simp; exact hK _ _ (Grow.refl _) rfl
                · intro w1 hg Ar seen
                  have e11 := seen.de 11 35
                  have e9 := seen.de 9 33
                  refine does_on rfl (by kernel_rfl) e9 fun K Q' hK => ?_
                  clear e9
                  go_simp; exact hK _ _ (Grow.refl _) rfl
                · intro w1 hg Ar seen
                  have e12 := seen.de 12 36
                  have e9 := seen.de 9 33
                  refine does_on rfl (by kernel_rfl) e9 fun K Q' hK => ?_
                  clear e9
                  have hs := HH2.out
                  go_simp; exact hK _ _ (Grow.refl _) rfl
                · intro w1 hg Ar seen
                  have e9 := seen.de 9 33
                  have e13 := seen.de 13 37
                  refine does_plain rfl fun K Q' hK => ?_
                  go_simp; exact hK _ _ (Grow.refl _) rfl
                · intro w1 hg Ar seen
                  obtain ⟨v6, e6, h6⟩ := seen.dp 6 30
                  have e14 := seen.de 14 38
                  refine does_plain rfl fun K Q' hK => ?_
                  obtain ⟨s2, rfl, h4⟩ := h6
                  go_simp
                  exact hK _ _ (Grow.refl _) ⟨s2, rfl, h4⟩
                · intro w1 hg Ar seen
                  refine does_plain rfl fun K Q' hK => ?_
                  refine wp_alloc_obj 59 rfl _ chZero ?_
                  exact hK _ _ ((Below.refl _ _).alloc (Nat.le_refl _) _) ⟨_, rfl, block_new _ _, hg.size⟩
            intro w1 hg
            refine upon_w' (js := [0, 1, 2, 3, 4, 5, 6, 7, 8, 9, 10, 11, 12, 13, 14, 15, 16]) (by rfl) ?_
            refine upon_e (some 24) (upon_e (some 25) (upon_e (some 26) (upon_e (some 27) (upon_e (some 28) (upon_v (some 29) fun v5 h5 => upon_v (some 30) fun v6 h6 => upon_e (some 31) (upon_e (some 32) (upon_e (some 33) (upon_e (some 34) (upon_e (some 35) (upon_e (some 36) (upon_e (some 37) (upon_e (some 38) (upon_v (some 39) fun v15 h15 => upon_v (some 8) fun v16 h16 => upon_n ?_)))))))))))))
            obtain ⟨s2, rfl, hs2⟩ := h15
            obtain ⟨q, rfl, hq, hlo⟩ := h16
            have HLO := hid hlo
            have HLT := hid HO5.out.low
            have HO6 := hid (HO5.out.below hg)
            have HB6 := hid (HB5.out.trans (hg.mono HB5.out.size))
            have HX6 := hid ((hg.block _ (block_lt HX.out)).trans HX.out)
            have HQ6 := hid hq
            have HBS := hid (block_lt HX.out)
            have HW61 := hid hg.size
            have hlo5 := HLO.out
            clear hg hq hlo h5 h6
            go_frame
            go_upto_region 7 with (refine wpList_store_obj rfl 59 _ _ rfl q rfl #[.string s2, .bool false, .slice none 0 0] rfl _ _ HQ6.out rfl chSize (by simp [Value.oneCell']) ?_; intro w7 hb7 hc7 hs7; have HQ7 := hid hb7; have HC7 := hid hc7; clear hb7 hc7 hs7)
            have HO7 := hid (HO6.out.keepLt HLT.out HC7.out (fun q' hq => by rw [List.mem_singleton.1 hq]; exact HLO.out))
            have HB7 := hid (HB6.out.trans (HC7.out.below (fun q' hq => by rw [List.mem_singleton.1 hq]; exact Nat.le_trans HB5.out.size HLO.out) HB6.out.size))
            have HX7 := hid ((HC7.out.block _ (block_lt HX6.out) (fun hm => by have h1 := List.mem_singleton.1 hm; have h2 := HBS.out; omega)).trans HX6.out)
            have HZ7 := hid (Nat.le_trans HW61.out HC7.out.size)
            clear HO6 HB6 HX6 HQ6 HC7 HX HO5
            have c1 : w7.cell? ⟨q, 1, none⟩ = some (.bool false) := cell_of_block (j := 1) HQ7.out rfl
            go_upto_region 9 with (fail)
            clear c1
            have HNV : Hid (∀ b off sp, (none : Option Addr) = some ⟨b, off, sp⟩ → q < b ∧ w5.heap.size ≤ b ∧ b < w7.heap.size) := fun b off sp e => by cases e
            have c9 : w7.cell? ⟨bs, 2, none⟩ = some (.int .i64 x.n) := cell_of_block (j := 2) HX7.out rfl
            go_upto_if 52 with (fail)
            clear c9
            generalize hb9 : (x.n.tmod 41 == 40) = b9
            clear hb9
            cases b9 with
            | true =>
              have c4 : w7.cell? ⟨bs, 4, none⟩ = some (.string x.odd) := cell_of_block (j := 4) HX7.out rfl
              have c0 : w7.cell? ⟨q, 0, none⟩ = some (.string s2) := cell_of_block (j := 0) HQ7.out rfl
              have f1 : ∀ j, w7.frozen? ⟨q, j, none⟩ = false := fun j => frozen_of_block HQ7.out
              go_upto_region 11 with (fail)
              clear c4 c0 f1
              have hx9 := block_setCell (j := 0) HQ7.out (.string x.odd)
              have hb9 : Chg [q] w7 (w7.setCell ⟨q, 0, none⟩ (.string x.odd)) := (Chg.refl [q] w7).setCell (.inl (by simp)) _
              generalize w7.setCell ⟨q, 0, none⟩ (.string x.odd) = w9 at *
              obtain ⟨y, hy⟩ : ∃ y : ChD, y = ⟨x.odd, false, none, 0, 0, []⟩ := ⟨_, rfl⟩
              have HY := hid hy
              have HXB := hid (show w9.heap[q]? = some (.cells y.cells.toArray 59 (0, 0)) from by rw [HY.out]; exact hx9)
              have HOW := hid (HO7.out.keepLt HLT.out hb9 (fun q' hq => by rw [List.mem_singleton.1 hq]; exact HLO.out))
              have HBW := hid (HB7.out.trans (hb9.below (fun q' hq => by rw [List.mem_singleton.1 hq]; exact Nat.le_trans HB5.out.size HLO.out) HB7.out.size))
              have HXO := hid (show y.ok w9 from by rw [HY.out]; exact ⟨hb9.rdB ⟨rfl, fun j hj => absurd hj (Nat.not_lt_zero _)⟩ (fun b off sp e hm => by have h1 := HNV.out b off sp e; have h2 := List.mem_singleton.1 hm; omega), fun _ => rfl, Nat.zero_le _, HOD.out⟩)
              have HVB := hid (show ∀ b off sp, y.va = some ⟨b, off, sp⟩ → w.heap.size ≤ b ∧ b < w9.heap.size ∧ (Sl.mk oa on oc).v.ownBlock ≠ some b from by
                rw [HY.out]
                intro b off sp e
                have h1 := HNV.out b off sp e
                have h2 := hb9.size; have h3 := HB5.out.size
                exact ⟨by omega, by omega, fun he => by have := HLT.out.1 b he; omega⟩)
              clear hy hx9 hb9 HY
              have HGA := hid ((Below.refl w9.heap.size w9).alloc (Nat.le_refl _) (.cells y.cells.toArray 59))
              have HOA := hid (HOW.out.below HGA.out)
              go_wp2_with (first | (refine wpList_load_row rfl 59 _ rfl q rfl _ _ _ _ HXB.out Try.underlying59 rfl chSize ?_) | (refine wpList_buildSlice rfl 23 59 1 _ rfl y.cells.toArray i _ Try.underlying23 hi hz0 (by rw [hz1]; decide) (by rw [hz1]; decide) (by rw [hz1]; kernel_rfl) ?_) | (at_builtin; refine haltI ?_))
              refine haltO ?_
              refine wpList_append_c rfl _ _ 23 rfl w.heap.size 59 i _ 3 48 Try.underlying23 hi hz0 hz1 hz2 rfl (by decide) (.slice oa on oc) on _ rfl HOA.out.own (some ⟨w9.heap.size, 0, none⟩) 1 1 y.cells rfl (RdC.new _ _ _ _ y.cells (by simp) 3 rfl _ rfl) (fun u hu => by have := cells_one [y] u; rw [List.flatMap_cons, List.flatMap_nil, List.append_nil] at this; exact this hu) (fun hx => by cases hx) (by unfold maxLen; omega) (by omega) (by have h1 := HBW.out.size; have h2 := HGA.out.size; omega) ?_
              intro a' c' w10 hown hgw hfr
              have hap := OwnC.app (s := ⟨oa, on, oc⟩) HOW.out HGA.out HXO.out HVB.out hown hgw hfr
              have hb10 : Chg ((Value.slice oa on oc).ownBlock.toList) w9 w10 := (Chg.of_below HGA.out _).grown hgw (fun k hk => .inl (by rw [hk]; simp))
              have HRR : LsL w n (.slice a' (on + 1) c') (.int .i64 ((k : Int) + 1)) w10 := ⟨⟨k + 1, on + 1, a', c', xs ++ [y], rfl, rfl, by omega, k1, hap, HBW.out.trans (hb10.below (fun q hq => (HOW.out.own.lt q (by simpa using hq)).1) HBW.out.size)⟩⟩
              clear hown hgw hfr hap hb10
              go_wp2_with fail
              go_roundw
              case rel => first | exact HRR | ((repeat apply Exists.intro); exact HRR) | ((repeat apply Exists.intro); exact ⟨HRR, rfl⟩)
              case measure => (simp [intOf] <;> omega)
            | false =>
              go_upto_region 11 with (fail)
              obtain ⟨y, hy⟩ : ∃ y : ChD, y = ⟨s2, false, none, 0, 0, []⟩ := ⟨_, rfl⟩
              have HY := hid hy
              have HXB := hid (show w7.heap[q]? = some (.cells y.cells.toArray 59 (0, 0)) from by rw [HY.out]; exact HQ7.out)
              have HOW := HO7; have HBW := HB7
              have HXO := hid (show y.ok w7 from by rw [HY.out]; exact ⟨⟨rfl, fun j hj => absurd hj (Nat.not_lt_zero _)⟩, fun _ => rfl, Nat.zero_le _, by show s2.size ≤ _; omega⟩)
              have HVB := hid (show ∀ b off sp, y.va = some ⟨b, off, sp⟩ → w.heap.size ≤ b ∧ b < w7.heap.size ∧ (Sl.mk oa on oc).v.ownBlock ≠ some b from by
                rw [HY.out]
                intro b off sp e
                have h1 := HNV.out b off sp e
                have h3 := HB5.out.size
                exact ⟨by omega, by omega, fun he => by have := HLT.out.1 b he; omega⟩)
              clear hy HY
              have HGA := hid ((Below.refl w7.heap.size w7).alloc (Nat.le_refl _) (.cells y.cells.toArray 59))
              have HOA := hid (HOW.out.below HGA.out)
              go_wp2_with (first | (refine wpList_load_row rfl 59 _ rfl q rfl _ _ _ _ HXB.out Try.underlying59 rfl chSize ?_) | (refine wpList_buildSlice rfl 23 59 1 _ rfl y.cells.toArray i _ Try.underlying23 hi hz0 (by rw [hz1]; decide) (by rw [hz1]; decide) (by rw [hz1]; kernel_rfl) ?_) | (at_builtin; refine haltI ?_))
              refine haltO ?_
              refine wpList_append_c rfl _ _ 23 rfl w.heap.size 59 i _ 3 48 Try.underlying23 hi hz0 hz1 hz2 rfl (by decide) (.slice oa on oc) on _ rfl HOA.out.own (some ⟨w7.heap.size, 0, none⟩) 1 1 y.cells rfl (RdC.new _ _ _ _ y.cells (by simp) 3 rfl _ rfl) (fun u hu => by have := cells_one [y] u; rw [List.flatMap_cons, List.flatMap_nil, List.append_nil] at this; exact this hu) (fun hx => by cases hx) (by unfold maxLen; omega) (by omega) (by have h1 := HBW.out.size; have h2 := HGA.out.size; omega) ?_
              intro a' c' w10 hown hgw hfr
              have hap := OwnC.app (s := ⟨oa, on, oc⟩) HOW.out HGA.out HXO.out HVB.out hown hgw hfr
              have hb10 : Chg ((Value.slice oa on oc).ownBlock.toList) w7 w10 := (Chg.of_below HGA.out _).grown hgw (fun k hk => .inl (by rw [hk]; simp))
              have HRR : LsL w n (.slice a' (on + 1) c') (.int .i64 ((k : Int) + 1)) w10 := ⟨⟨k + 1, on + 1, a', c', xs ++ [y], rfl, rfl, by omega, k1, hap, HBW.out.trans (hb10.below (fun q hq => (HOW.out.own.lt q (by simpa using hq)).1) HBW.out.size)⟩⟩
              clear hown hgw hfr hap hb10
              go_wp2_with fail
              go_roundw
              case rel => first | exact HRR | ((repeat apply Exists.intro); exact HRR) | ((repeat apply Exists.intro); exact ⟨HRR, rfl⟩)
              case measure => (simp [intOf] <;> omega)
      · have k2z : ¬ (k : Int) < most := k2
        go_wp2_with fail
        go_ret
        exact ⟨oa, on, oc, xs, rfl, by omega, HO.out.q (by show on ≤ _; omega), HB.out⟩
    · have k1z : ¬ (k : Int) < (n : Int) := by omega
      go_wp2_with fail
      go_ret
      exact ⟨oa, on, oc, xs, rfl, by omega, HO.out.q (by show on ≤ _; omega), HB.out⟩
end Go.Proofs.Ytipkeifpkemcdaa
