/- locksmithref1.ReadChanges. -/
import Derived.Test.YtipkeifpkemcdaaMStA
import Derived.Test.YtipkeifpkemcdaaStLr
namespace Go.Proofs.Ytipkeifpkemcdaa
open Go.RowKit
set_option linter.unusedVariables false
set_option linter.unusedSimpArgs false
set_option maxRecDepth 1000000
set_option maxHeartbeats 6400000
theorem alloc_size' (w : World) (o : Obj) : (w.alloc o).heap.size = w.heap.size + 1 := by simp
theorem RdS.lackc {T : TypeId} {w : World} {p : Nat} {s : PS} {F : List Nat} (h : RdS T w p s F) : w.cell? ⟨p, 1, none⟩ = some (.bool s.2) := by
  obtain ⟨-, F', ⟨a, n, c, hn, h1, -⟩, -⟩ := h
  exact cell_of_block (j := 1) h1 rfl
theorem RdS.bytec {T : TypeId} {w : World} {p : Nat} {s : PS} {F : List Nat} (h : RdS T w p s F) : ∃ a c, w.cell? ⟨p, 0, none⟩ = some (.slice a s.1.length c) := by
  obtain ⟨-, F', ⟨a, n, c, hn, h1, -⟩, -⟩ := h
  exact ⟨a, c, by rw [hn]; exact cell_of_block (j := 0) h1 rfl⟩
theorem rdLr_stop {n : Nat} {s : PS} (h : s.2 = true) : rdLr n s = some ([], s) := by
  cases n with
  | zero => rfl
  | succ n => unfold rdLr; rw [if_pos h]
theorem rdLr_go {n : Nat} {s : PS} (h : s.2 = false) (h1 : ¬ 1 < (pI 1 (pS s).2).1) : rdLr (n + 1) s = (rdLr n (rdC s).2).map fun r => ((rdC s).1 :: r.1, r.2) := by
  conv => lhs; unfold rdLr
  rw [if_neg (by rw [h]; decide), if_neg h1]
theorem rdLr_bad {n : Nat} {s : PS} (h : s.2 = false) (h1 : 1 < (pI 1 (pS s).2).1) : rdLr (n + 1) s = none := by
  conv => lhs; unfold rdLr
  rw [if_neg (by rw [h]; decide), if_pos h1]
theorem readCr_at {b : List UInt8} {N : Nat} {s1 s : PS} {l : List Cg} (h1 : (pI 2 (b, false)).1 = (N : Int)) (h2 : (pI 2 (b, false)).2 = s1) (h3 : rdLr N s1 = some (l, s)) : readCs b = if s.2 = true ∨ 0 < s.1.length ∨ okCs l = false ∨ layCs l ≠ b then none else some l := by
  rw [← readCr_eq]
  unfold readCr
  rw [h1, h2, Int.toNat_natCast, h3]
  rfl
theorem readCr_bad {b : List UInt8} {N : Nat} {s1 : PS} (h1 : (pI 2 (b, false)).1 = (N : Int)) (h2 : (pI 2 (b, false)).2 = s1) (h3 : rdLr N s1 = none) : readCs b = none := by
  rw [← readCr_eq]
  unfold readCr
  rw [h1, h2, Int.toNat_natCast, h3]
  rfl
/-- While changes are read. -/
structure RcR (w0 w1 : World) (T : TypeId) (p N : Nat) (s0 : PS) (F : List Nat) (y6 y7 : Value) (wr : World) : Prop where
  ex : ∃ (m j on : Nat) (oa : Option Addr) (oc : Nat) (xs : List ChD) (s : PS), y6 = .slice oa on oc ∧ y7 = .int .i64 (j : Int) ∧ j + m = N ∧ on ≤ j ∧ OwnC wr w1.heap.size ⟨oa, on, oc⟩ xs ∧ RdS T wr p s F ∧ Below w0.heap.size w0 wr ∧ w1.heap.size ≤ wr.heap.size ∧ rdLr N s0 = (rdLr m s).map fun r => (xs.map ChD.cg ++ r.1, r.2)
theorem read5r_any (a : Option Addr) (n c : Nat) (b : List UInt8) (w : World) (hb : RdB w a n b) (hno : a = none → c = 0) (hn : n ≤ 140737488355328) (hnc : n ≤ c) (hat : ∀ b off sp, a = some ⟨b, off, sp⟩ → b < w.heap.size) :
    Calls Try.prog 15 #[.slice a n c] w (ReadRes w b) := by
  obtain ⟨i, hi, hz0, hz1, hz2⟩ := info_parts chInfo
  have HB := hid hb; have HNO := hid hno
  clear hb hno
  go_enter Try.func15, Try.ntmps15
  go_upto_region 2 with (fail)
  have hrr : Rr 79 (w.alloc (.cells #[.slice a n c, .bool false] 79)) w.heap.size b false (w.heap.size :: (a.map (·.block)).toList) :=
    ⟨a, n, c, HB.out.len, block_new _ _, HB.out.below ((Below.refl _ _).alloc (Nat.le_refl _) _), hnc, HNO.out, fun q off sp e => by have h1 := hat q off sp e; have h2 := alloc_size' w (.cells #[.slice a n c, .bool false] 79); exact ⟨by omega, by omega⟩, rfl⟩
  have HB1 := hid (show Below w.heap.size w (w.alloc (.cells #[.slice a n c, .bool false] 79)) from (Below.refl _ _).alloc (Nat.le_refl _) _)
  obtain ⟨F, hF⟩ : ∃ F, F = w.heap.size :: (a.map (·.block)).toList := ⟨_, rfl⟩
  rw [← hF] at hrr
  have hr1 : RdS 79 (w.alloc (.cells #[.slice a n c, .bool false] 79)) w.heap.size (b, false) F := ⟨by have := HB.out.len; show b.length ≤ _; omega, F, hrr, fun q hq => hq⟩
  have HR1 := hid hr1
  have HFL := hid hrr.lt
  obtain ⟨p, hp⟩ : ∃ p, p = w.heap.size := ⟨_, rfl⟩
  rw [← hp] at HR1 ⊢
  have HPL := hid (show w.heap.size ≤ p by omega)
  clear hp hrr hr1 hF hnc hat
  generalize w.alloc (.cells #[.slice a n c, .bool false] 79) = w1 at *
  go_wp2_with fail
  refine (srU16_any p (b, false) F _ HR1.out).mono ?_
  rintro e w2 ⟨rfl, hc2, hr2⟩
  dsimp only
  obtain ⟨hm0, hm1⟩ := pI2_small (b, false)
  obtain ⟨N, hN⟩ := Int.eq_ofNat_of_zero_le hm0
  have HN := hid hN
  have hN5 : N ≤ 65535 := by omega
  rw [hN]
  obtain ⟨s1, hs1⟩ : ∃ s, (pI 2 (b, false)).2 = s := ⟨_, rfl⟩
  rw [hs1] at hr2
  have HS1 := hid hs1
  have HR2 := hid hr2
  have HB2 := hid (HB1.out.trans (hc2.below (fun q hq => by rw [List.mem_singleton.1 hq]; exact HPL.out) HB1.out.size))
  have HZ2 := hid hc2.size
  clear hs1 hN hm0 hm1 hr2 hc2 HR1
  go_wp2_with fail
  go_loopw [6, 7] (fun y6 y7 wr => RcR w w1 79 p N s1 F y6 y7 wr) (fun _ y7 _ => N - (intOf y7).toNat)
  case atStart => exact ⟨⟨N, 0, 0, none, 0, [], s1, rfl, rfl, by omega, by omega, OwnC.nil _ _, HR2.out, HB2.out, HZ2.out, by simp⟩⟩
  case round =>
    clear HR2 HB2 HZ2
    obtain ⟨m, j, on, oa, oc, xs, s, rfl, rfl, hjm, hon, hown, hrd, hbw, hz1', heq⟩ := hrel.ex
    clear hrel
    have HO := hid hown; have HRD := hid hrd; have HBW := hid hbw; have HZ := hid hz1'; have HEQ := hid heq
    clear hown hrd hbw hz1' heq
    by_cases km : 0 < m
    · obtain ⟨m, rfl⟩ : ∃ j, m = j + 1 := ⟨m - 1, by omega⟩
      have kmz : (j : Int) < (N : Int) := by omega
      have cL := HRD.out.lackc
      obtain ⟨lk, hlk⟩ : ∃ y, s.2 = y := ⟨_, rfl⟩
      have HLK := hid hlk
      rw [hlk] at cL
      clear hlk
      cases lk with
      | true =>
        have HEQ2 := hid (show rdLr N s1 = some (xs.map ChD.cg, s) from by rw [HEQ.out, rdLr_stop HLK.out]; simp)
        go_wp2_with fail
        clear cL
        refine (lay5r_any oa on oc xs _ (HO.out.q (by show on ≤ _; omega)).ch).mono ?_
        intro e w3 hres
        obtain ⟨hb3, hres⟩ := hres
        have HB3 := hid hb3
        have HBT := hid (HBW.out.trans (hb3.mono HBW.out.size))
        have HRD3 := hid (HRD.out.below hb3)
        have HO3 := hid (HO.out.below hb3)
        have HOK := hid (readCr_at HN.out HS1.out HEQ2.out)
        have HONL := hid (show on ≤ 140737488355328 by omega)
        clear HO HRD HBW hb3
        obtain ⟨lk2, hlk2⟩ : ∃ y, s.2 = y := ⟨_, rfl⟩
        have HLK2 := hid hlk2
        have cL := HRD3.out.lackc
        rw [hlk2] at cL
        obtain ⟨ra, rc, cB⟩ := HRD3.out.bytec
        clear hlk2
        obtain ⟨rl, hrl⟩ : ∃ y, s.1.length = y := ⟨_, rfl⟩
        have HRL := hid hrl
        rw [hrl] at cB
        clear hrl
        rcases hres with ⟨hok, a2, n2, c2, rfl, hr2, hno2, hat2⟩ | ⟨hok, rfl⟩
        · have HOKL := hid hok
          have kb1 := run_bytes_str (P := Try.prog) hr2 c2 24 9 5 Try.underlying24 Try.underlying5 Try.underlying9
          have kb2 := run_bytes_str (P := Try.prog) (HB.out.below HBT.out) c 24 9 5 Try.underlying24 Try.underlying5 Try.underlying9
          dsimp only
          clear hok hr2 hno2 hat2
          cases lk2 with
          | true =>
            go_wp2_with fail
            go_ret2
            exact ⟨HBT.out, .inr ⟨by rw [HOK.out, if_pos (.inl HLK2.out)], rfl⟩⟩
          | false =>
            by_cases h0 : (0 : Int) < (rl : Int)
            · go_wp2_with fail
              go_ret2
              exact ⟨HBT.out, .inr ⟨by rw [HOK.out, if_pos (.inr (.inl (by have := HRL.out; omega)))], rfl⟩⟩
            · obtain ⟨L, hL⟩ : ∃ L, layCs (xs.map ChD.cg) = L := ⟨_, rfl⟩
              rw [hL] at kb1
              have HL := hid hL
              clear hL
              by_cases heq : L = b
              · subst heq
                go_wp2_with fail
                go_ret2
                exact ⟨HBT.out, .inl ⟨oa, on, oc, xs, rfl, by rw [HOK.out, if_neg (fun h => by
                  rcases h with h | h | h | h
                  · rw [HLK2.out] at h; cases h
                  · have := HRL.out; omega
                  · rw [HOKL.out] at h; cases h
                  · exact h HL.out)], (HO3.out.q HONL.out).wide (fun q hq => ⟨Nat.le_trans HB1.out.size hq.1, hq.2⟩)⟩⟩
              · have hne : (L == b) = false := by rw [beq_eq_false_iff_ne]; exact heq
                have HQ := hid heq
                clear heq
                go_wp2_with fail
                go_ret2
                exact ⟨HBT.out, .inr ⟨by rw [HOK.out, if_pos (.inr (.inr (.inr (by rw [HL.out]; exact HQ.out))))], rfl⟩⟩
        · have HOKL := hid hok
          dsimp only
          clear hok
          have HNO2 := hid (show readCs b = none from by rw [HOK.out, if_pos (.inr (.inr (.inl HOKL.out)))])
          cases lk2 with
          | true => go_wp2_with fail; go_ret2; exact ⟨HBT.out, .inr ⟨HNO2.out, rfl⟩⟩
          | false =>
            by_cases h0 : (0 : Int) < (rl : Int)
            · go_wp2_with fail; go_ret2; exact ⟨HBT.out, .inr ⟨HNO2.out, rfl⟩⟩
            · go_wp2_with fail; go_ret2; exact ⟨HBT.out, .inr ⟨HNO2.out, rfl⟩⟩
      | false =>
        go_wp2_with fail
        clear cL
        refine (srShort_any p s F _ HRD.out).mono ?_
        rintro e w3 ⟨ka, kn, kc, rfl, how, hc3, hr3⟩
        dsimp only
        have kcv := run_bytes_str (P := Try.prog) (RdB.of_own how) kc 24 9 5 Try.underlying24 Try.underlying5 Try.underlying9
        go_upto_region 8 with (first | (refine wpList_alloc_obj rfl 59 rfl _ chZero ?_) | (refine wpList_store_obj rfl 59 _ _ rfl w3.heap.size rfl #[.string ⟨(pS s).1.toArray⟩, .bool false, .slice none 0 0] rfl _ _ (block_new w3 _) rfl chSize (by simp [Value.oneCell']) ?_; intro w5 hb5 hc5 hs5; have HX := hid hb5; have HC5 := hid hc5; clear hb5 hc5 hs5))
        have hbel : Below w3.heap.size w3 w5 := ((Below.refl _ w3).alloc (Nat.le_refl _) _).trans (HC5.out.below (fun k hk => by rw [List.mem_singleton.1 hk]; exact Nat.le_refl _) (by simp))
        have hpF : p ∈ F := HRD.out.mem
        have hpb := HFL.out p hpF
        have hpl := HPL.out
        have HO5 := hid ((HO.out.keep hc3 (fun q hq => by rw [List.mem_singleton.1 hq]; exact hpb)).below hbel)
        have HR5 := hid (hr3.below hbel)
        have HB5 := hid ((HBW.out.trans (hc3.below (fun q hq => by rw [List.mem_singleton.1 hq]; exact hpl) HBW.out.size)).trans (hbel.mono (Nat.le_trans HBW.out.size hc3.size)))
        have HZ5 := hid (Nat.le_trans HZ.out (Nat.le_trans hc3.size hbel.size))
        have HZ3 := hid (Nat.le_trans HZ.out hc3.size)
        have HPB := hid hpb
        have HLT := hid ((HO.out.keep hc3 (fun q hq => by rw [List.mem_singleton.1 hq]; exact hpb)).low)
        have HSL := hid (Nat.le_trans (pS_len s) HRD.out.1)
        clear how hc3 hr3 kcv hbel hpF hpb hpl HC5 HO HRD HBW HZ
        generalize w3.heap.size = bs at *
        go_wp2_with fail
        refine (srU8_any p (pS s).2 F _ HR5.out).mono ?_
        rintro e w6 ⟨rfl, hc6, hr6⟩
        dsimp only
        have HX6 := hid ((hc6.block _ (block_lt HX.out) (fun hm => by have h1 := List.mem_singleton.1 hm; have h2 := HZ3.out; have h3 := HPB.out; omega)).trans HX.out)
        have HB6 := hid (HB5.out.trans (hc6.below (fun q hq => by rw [List.mem_singleton.1 hq]; exact HPL.out) HB5.out.size))
        have HO6 := hid (HO5.out.keep hc6 (fun q hq => by rw [List.mem_singleton.1 hq]; exact HPB.out))
        have HR6 := hid hr6
        have HZ6 := hid (Nat.le_trans HZ5.out hc6.size)
        clear hc6 hr6 HX HB5 HO5 HR5 HZ5
        obtain ⟨kk, hkk⟩ : ∃ y, (pI 1 (pS s).2).1 = y := ⟨_, rfl⟩
        rw [hkk]
        have HKK := hid hkk
        clear hkk
        by_cases g1 : (1 : Int) < kk
        · go_wp2_with fail
          go_ret2
          exact ⟨HB6.out, .inr ⟨readCr_bad HN.out HS1.out (by rw [HEQ.out, rdLr_bad HLK.out (by rw [HKK.out]; exact g1)]; rfl), rfl⟩⟩
        have G1 := hid (show ¬ 1 < (pI 1 (pS s).2).1 from by rw [HKK.out]; exact g1)
        have hbF : bs ∉ F := fun hm => by have h1 := HFL.out _ hm; have h2 := HZ3.out; omega
        have HBL := hid (show w.heap.size ≤ bs from Nat.le_trans HB1.out.size HZ3.out)
        by_cases g2 : kk = 1
        · subst g2
          have c1 : w6.cell? ⟨bs, 1, none⟩ = some (.bool false) := cell_of_block (j := 1) HX6.out rfl
          have f1 : ∀ j, w6.frozen? ⟨bs, j, none⟩ = false := fun j => frozen_of_block HX6.out
          go_upto_region 13 with (fail)
          clear c1 f1
          have hx7 := block_setCell (j := 1) HX6.out (.bool true)
          have hb7 : Chg [bs] w6 (w6.setCell ⟨bs, 1, none⟩ (.bool true)) := (Chg.refl [bs] w6).setCell (.inl (by simp)) _
          generalize w6.setCell ⟨bs, 1, none⟩ (.bool true) = w7 at *
          have HX7 := hid (show w7.heap[bs]? = some (.cells #[.string ⟨(pS s).1.toArray⟩, .bool true, .slice none 0 0] 59 (0, 0)) from hx7)
          have HB7 := hid (HB6.out.trans (hb7.below (fun q hq => by rw [List.mem_singleton.1 hq]; exact HBL.out) HB6.out.size))
          have HO7 := hid (HO6.out.keepLt HLT.out hb7 (fun q hq => by rw [List.mem_singleton.1 hq]; exact Nat.le_refl _))
          have HR7 := hid (HR6.out.keep hb7 (fun q hq hm => hbF (by rw [← List.mem_singleton.1 hm]; exact hq)))
          have HZ7 := hid (Nat.le_trans HZ6.out hb7.size)
          clear hx7 hb7 HX6 HB6 HO6 HR6 HZ6
          go_wp2_with fail
          refine (srShort_any p (pI 1 (pS s).2).2 F _ HR7.out).mono ?_
          rintro e w8 ⟨va, vn, vc, rfl, ho8, hc8, hr8⟩
          dsimp only
          have HX8 := hid ((hc8.block _ (block_lt HX7.out) (fun hm => by have h1 := List.mem_singleton.1 hm; have h2 := HZ3.out; have h3 := HPB.out; omega)).trans HX7.out)
          have HB8 := hid (HB7.out.trans (hc8.below (fun q hq => by rw [List.mem_singleton.1 hq]; exact HPL.out) HB7.out.size))
          have HO8 := hid (HO7.out.keep hc8 (fun q hq => by rw [List.mem_singleton.1 hq]; exact HPB.out))
          have HR8 := hid hr8
          have HZ8 := hid (Nat.le_trans HZ7.out hc8.size)
          have HV8 := hid ho8
          have HVL := hid (Nat.le_trans (pS_len (pI 1 (pS s).2).2) HR7.out.1)
          have HL7 := hid HO7.out.low
          have HBS7 := hid (block_lt HX7.out)
          have HZ78 := hid hc8.size
          clear hc8 hr8 ho8 HX7 HB7 HO7 HR7
          have c1 : w8.cell? ⟨bs, 2, none⟩ = some (.slice none 0 0) := cell_of_block (j := 2) HX8.out rfl
          have f1 : ∀ j, w8.frozen? ⟨bs, j, none⟩ = false := fun j => frozen_of_block HX8.out
          go_upto_region 14 with (fail)
          clear c1 f1
          have hx9 := block_setCell (j := 2) HX8.out (.slice va vn vc)
          have hb9 : Chg [bs] w8 (w8.setCell ⟨bs, 2, none⟩ (.slice va vn vc)) := (Chg.refl [bs] w8).setCell (.inl (by simp)) _
          generalize w8.setCell ⟨bs, 2, none⟩ (.slice va vn vc) = w9 at *
          obtain ⟨x, hx⟩ : ∃ x : ChD, x = ⟨⟨(pS s).1.toArray⟩, true, va, vn, vc, (pS (pI 1 (pS s).2).2).1⟩ := ⟨_, rfl⟩
          obtain ⟨sN, hsN⟩ : ∃ y, y = (pS (pI 1 (pS s).2).2).2 := ⟨_, rfl⟩
          have HX := hid hx; have HSN := hid hsN
          have HCG := hid (show rdC s = (x.cg, sN) from by rw [HX.out, HSN.out, rdC_on HKK.out]; rfl)
          have HXB := hid (show w9.heap[bs]? = some (.cells x.cells.toArray 59 (0, 0)) from by rw [HX.out]; exact hx9)
          have HOW := hid (HO8.out.keepLt HLT.out hb9 (fun q hq => by rw [List.mem_singleton.1 hq]; exact Nat.le_refl _))
          have HBW2 := hid (HB8.out.trans (hb9.below (fun q hq => by rw [List.mem_singleton.1 hq]; exact HBL.out) HB8.out.size))
          have HZW := hid (Nat.le_trans HZ8.out hb9.size)
          have HRW := hid (show RdS 79 w9 p sN F from by rw [HSN.out]; exact HR8.out.keep hb9 (fun q hq hm => hbF (by rw [← List.mem_singleton.1 hm]; exact hq)))
          have HXO := hid (show x.ok w9 from by
            rw [HX.out]
            exact ⟨hb9.rdB (RdB.of_own HV8.out) (fun b off sp e hm => by have h1 := (own_at HV8.out b off sp e).1; have h2 := List.mem_singleton.1 hm; have h3 := HBS7.out; omega), (own_slice HV8.out).2.1, by have h1 := (RdB.of_own HV8.out).len; have h2 := HVL.out; show vn ≤ _; omega, by show (pS s).1.toArray.size ≤ _; rw [List.size_toArray]; exact Nat.le_trans HSL.out (by decide)⟩)
          have HVB := hid (show ∀ b off sp, x.va = some ⟨b, off, sp⟩ → w1.heap.size ≤ b ∧ b < w9.heap.size ∧ (Sl.mk oa on oc).v.ownBlock ≠ some b from by
            rw [HX.out]
            intro b off sp e
            have h1 := own_at HV8.out b off sp e
            have h2 := hb9.size; have h3 := HZ7.out
            exact ⟨by omega, by omega, fun he => by have := HL7.out.1 b he; omega⟩)
          clear hx hsN hx9 hb9 HX8 HB8 HO8 HR8 HZ8 HV8 HVL HL7 HX HSN
          have HEX := hid (show rdLr N s1 = (rdLr m sN).map fun r => ((xs ++ [x]).map ChD.cg ++ r.1, r.2) from by
            rw [HEQ.out, rdLr_go HLK.out (Int.not_lt.2 (show (pI 1 (pS s).2).1 ≤ 1 from by have := G1.out; omega)), Option.map_map, HCG.out]
            congr 1
            funext r
            simp)
          have HGA := hid ((Below.refl w9.heap.size w9).alloc (Nat.le_refl _) (.cells x.cells.toArray 59))
          have HOA := hid (HOW.out.below HGA.out)
          go_wp2_with (first | (refine wpList_load_row rfl 59 _ rfl bs rfl _ _ _ _ HXB.out Try.underlying59 rfl chSize ?_) | (refine wpList_buildSlice rfl 23 59 1 _ rfl x.cells.toArray i _ Try.underlying23 hi hz0 (by rw [hz1]; decide) (by rw [hz1]; decide) (by rw [hz1]; kernel_rfl) ?_) | (at_builtin; refine haltI ?_))
          refine haltO ?_
          refine wpList_append_c rfl _ _ 23 rfl w1.heap.size 59 i _ 3 48 Try.underlying23 hi hz0 hz1 hz2 rfl (by decide) (.slice oa on oc) on _ rfl HOA.out.own (some ⟨w9.heap.size, 0, none⟩) 1 1 x.cells rfl (RdC.new _ _ _ _ x.cells (by simp) 3 rfl _ rfl) (fun u hu => by have := cells_one [x] u; rw [List.flatMap_cons, List.flatMap_nil, List.append_nil] at this; exact this hu) (fun hx => by cases hx) (by unfold maxLen; omega) (by omega) (by have h1 := HZW.out; have h2 := HGA.out.size; omega) ?_
          intro a' c' w10 hown hgw hfr
          have hap := OwnC.app (s := ⟨oa, on, oc⟩) HOW.out HGA.out HXO.out HVB.out hown hgw hfr
          have hb10 : Chg ((Value.slice oa on oc).ownBlock.toList) w9 w10 := (Chg.of_below HGA.out _).grown hgw (fun k hk => .inl (by rw [hk]; simp))
          have HRR : RcR w w1 79 p N s1 F (.slice a' (on + 1) c') (.int .i64 ((j : Int) + 1)) w10 := ⟨⟨m, j + 1, on + 1, a', c', xs ++ [x], sN, rfl, rfl, by omega, by omega, hap, HRW.out.keep hb10 (fun q hq hm => by
            have h1 := (HOW.out.own.lt q (by simpa using hm)).1
            have h2 := HFL.out q hq
            omega), HBW2.out.trans (hb10.below (fun q hq => by
            have h1 := (HOW.out.own.lt q (by simpa using hq)).1
            exact Nat.le_trans HB1.out.size h1) HBW2.out.size), Nat.le_trans HZW.out hb10.size, HEX.out⟩⟩
          clear hown hgw hfr hap hb10
          go_wp2_with fail
          go_roundw
          case rel => first | exact HRR | ((repeat apply Exists.intro); exact HRR) | ((repeat apply Exists.intro); exact ⟨HRR, rfl⟩)
          case measure => (simp [intOf] <;> omega)
        · go_upto_region 14 with (fail)
          have HX7 := HX6; have HB7 := HB6; have HO7 := HO6; have HR7 := HR6; have HZ7 := HZ6
          obtain ⟨x, hx⟩ : ∃ x : ChD, x = ⟨⟨(pS s).1.toArray⟩, false, none, 0, 0, []⟩ := ⟨_, rfl⟩
          obtain ⟨sN, hsN⟩ : ∃ y, y = (pI 1 (pS s).2).2 := ⟨_, rfl⟩
          have HX := hid hx; have HSN := hid hsN
          have HCG := hid (show rdC s = (x.cg, sN) from by rw [HX.out, HSN.out, rdC_off (by rw [HKK.out]; exact g2)]; rfl)
          have HXB := hid (show w6.heap[bs]? = some (.cells x.cells.toArray 59 (0, 0)) from by rw [HX.out]; exact HX7.out)
          have HOW := HO7; have HBW2 := HB7; have HZW := HZ7
          have HRW := hid (show RdS 79 w6 p sN F from by rw [HSN.out]; exact HR7.out)
          have HXO := hid (show x.ok w6 from by
            rw [HX.out]
            exact ⟨⟨rfl, fun j hj => absurd hj (Nat.not_lt_zero _)⟩, fun _ => rfl, Nat.zero_le _, by show (pS s).1.toArray.size ≤ _; rw [List.size_toArray]; exact Nat.le_trans HSL.out (by decide)⟩)
          have HVB := hid (show ∀ b off sp, x.va = some ⟨b, off, sp⟩ → w1.heap.size ≤ b ∧ b < w6.heap.size ∧ (Sl.mk oa on oc).v.ownBlock ≠ some b from by
            rw [HX.out]
            intro b off sp e
            cases e)
          clear hx hsN HX7 HX HSN
          have HEX := hid (show rdLr N s1 = (rdLr m sN).map fun r => ((xs ++ [x]).map ChD.cg ++ r.1, r.2) from by
            rw [HEQ.out, rdLr_go HLK.out (Int.not_lt.2 (show (pI 1 (pS s).2).1 ≤ 1 from by have := G1.out; omega)), Option.map_map, HCG.out]
            congr 1
            funext r
            simp)
          have HGA := hid ((Below.refl w6.heap.size w6).alloc (Nat.le_refl _) (.cells x.cells.toArray 59))
          have HOA := hid (HOW.out.below HGA.out)
          go_wp2_with (first | (refine wpList_load_row rfl 59 _ rfl bs rfl _ _ _ _ HXB.out Try.underlying59 rfl chSize ?_) | (refine wpList_buildSlice rfl 23 59 1 _ rfl x.cells.toArray i _ Try.underlying23 hi hz0 (by rw [hz1]; decide) (by rw [hz1]; decide) (by rw [hz1]; kernel_rfl) ?_) | (at_builtin; refine haltI ?_))
          refine haltO ?_
          refine wpList_append_c rfl _ _ 23 rfl w1.heap.size 59 i _ 3 48 Try.underlying23 hi hz0 hz1 hz2 rfl (by decide) (.slice oa on oc) on _ rfl HOA.out.own (some ⟨w6.heap.size, 0, none⟩) 1 1 x.cells rfl (RdC.new _ _ _ _ x.cells (by simp) 3 rfl _ rfl) (fun u hu => by have := cells_one [x] u; rw [List.flatMap_cons, List.flatMap_nil, List.append_nil] at this; exact this hu) (fun hx => by cases hx) (by unfold maxLen; omega) (by omega) (by have h1 := HZW.out; have h2 := HGA.out.size; omega) ?_
          intro a' c' w10 hown hgw hfr
          have hap := OwnC.app (s := ⟨oa, on, oc⟩) HOW.out HGA.out HXO.out HVB.out hown hgw hfr
          have hb10 : Chg ((Value.slice oa on oc).ownBlock.toList) w6 w10 := (Chg.of_below HGA.out _).grown hgw (fun k hk => .inl (by rw [hk]; simp))
          have HRR : RcR w w1 79 p N s1 F (.slice a' (on + 1) c') (.int .i64 ((j : Int) + 1)) w10 := ⟨⟨m, j + 1, on + 1, a', c', xs ++ [x], sN, rfl, rfl, by omega, by omega, hap, HRW.out.keep hb10 (fun q hq hm => by
            have h1 := (HOW.out.own.lt q (by simpa using hm)).1
            have h2 := HFL.out q hq
            omega), HBW2.out.trans (hb10.below (fun q hq => by
            have h1 := (HOW.out.own.lt q (by simpa using hq)).1
            exact Nat.le_trans HB1.out.size h1) HBW2.out.size), Nat.le_trans HZW.out hb10.size, HEX.out⟩⟩
          clear hown hgw hfr hap hb10
          go_wp2_with fail
          go_roundw
          case rel => first | exact HRR | ((repeat apply Exists.intro); exact HRR) | ((repeat apply Exists.intro); exact ⟨HRR, rfl⟩)
          case measure => (simp [intOf] <;> omega)
    · have km0 : m = 0 := by omega
      subst km0
      have kmz : ¬ (j : Int) < (N : Int) := by omega
      have HEQ2 := hid (show rdLr N s1 = some (xs.map ChD.cg, s) from by rw [HEQ.out]; show some (xs.map ChD.cg ++ [], s) = _; rw [List.append_nil])
      go_wp2_with fail
      refine (lay5r_any oa on oc xs _ (HO.out.q (by show on ≤ _; omega)).ch).mono ?_
      intro e w3 hres
      obtain ⟨hb3, hres⟩ := hres
      have HB3 := hid hb3
      have HBT := hid (HBW.out.trans (hb3.mono HBW.out.size))
      have HRD3 := hid (HRD.out.below hb3)
      have HO3 := hid (HO.out.below hb3)
      have HOK := hid (readCr_at HN.out HS1.out HEQ2.out)
      have HONL := hid (show on ≤ 140737488355328 by omega)
      clear HO HRD HBW hb3
      obtain ⟨lk2, hlk2⟩ : ∃ y, s.2 = y := ⟨_, rfl⟩
      have HLK2 := hid hlk2
      have cL := HRD3.out.lackc
      rw [hlk2] at cL
      obtain ⟨ra, rc, cB⟩ := HRD3.out.bytec
      clear hlk2
      obtain ⟨rl, hrl⟩ : ∃ y, s.1.length = y := ⟨_, rfl⟩
      have HRL := hid hrl
      rw [hrl] at cB
      clear hrl
      rcases hres with ⟨hok, a2, n2, c2, rfl, hr2, hno2, hat2⟩ | ⟨hok, rfl⟩
      · have HOKL := hid hok
        have kb1 := run_bytes_str (P := Try.prog) hr2 c2 24 9 5 Try.underlying24 Try.underlying5 Try.underlying9
        have kb2 := run_bytes_str (P := Try.prog) (HB.out.below HBT.out) c 24 9 5 Try.underlying24 Try.underlying5 Try.underlying9
        dsimp only
        clear hok hr2 hno2 hat2
        cases lk2 with
        | true =>
          go_wp2_with fail
          go_ret2
          exact ⟨HBT.out, .inr ⟨by rw [HOK.out, if_pos (.inl HLK2.out)], rfl⟩⟩
        | false =>
          by_cases h0 : (0 : Int) < (rl : Int)
          · go_wp2_with fail
            go_ret2
            exact ⟨HBT.out, .inr ⟨by rw [HOK.out, if_pos (.inr (.inl (by have := HRL.out; omega)))], rfl⟩⟩
          · obtain ⟨L, hL⟩ : ∃ L, layCs (xs.map ChD.cg) = L := ⟨_, rfl⟩
            rw [hL] at kb1
            have HL := hid hL
            clear hL
            by_cases heq : L = b
            · subst heq
              go_wp2_with fail
              go_ret2
              exact ⟨HBT.out, .inl ⟨oa, on, oc, xs, rfl, by rw [HOK.out, if_neg (fun h => by
                rcases h with h | h | h | h
                · rw [HLK2.out] at h; cases h
                · have := HRL.out; omega
                · rw [HOKL.out] at h; cases h
                · exact h HL.out)], (HO3.out.q HONL.out).wide (fun q hq => ⟨Nat.le_trans HB1.out.size hq.1, hq.2⟩)⟩⟩
            · have hne : (L == b) = false := by rw [beq_eq_false_iff_ne]; exact heq
              have HQ := hid heq
              clear heq
              go_wp2_with fail
              go_ret2
              exact ⟨HBT.out, .inr ⟨by rw [HOK.out, if_pos (.inr (.inr (.inr (by rw [HL.out]; exact HQ.out))))], rfl⟩⟩
      · have HOKL := hid hok
        dsimp only
        clear hok
        have HNO2 := hid (show readCs b = none from by rw [HOK.out, if_pos (.inr (.inr (.inl HOKL.out)))])
        cases lk2 with
        | true => go_wp2_with fail; go_ret2; exact ⟨HBT.out, .inr ⟨HNO2.out, rfl⟩⟩
        | false =>
          by_cases h0 : (0 : Int) < (rl : Int)
          · go_wp2_with fail; go_ret2; exact ⟨HBT.out, .inr ⟨HNO2.out, rfl⟩⟩
          · go_wp2_with fail; go_ret2; exact ⟨HBT.out, .inr ⟨HNO2.out, rfl⟩⟩
end Go.Proofs.Ytipkeifpkemcdaa
