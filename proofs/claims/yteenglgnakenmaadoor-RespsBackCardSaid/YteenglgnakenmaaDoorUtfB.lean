/- unicode/utf8.Valid. -/
import Derived.Test.YteenglgnakenmaaDoorUtf
import Derived.Test.YteenglgnakenmaaDoorRegion
import Derived.Deep.DeepCutAuto
import Derived.Deep.CutBlock
namespace Go.Proofs.YteenglgnakenmaaDoor
open Go.RowKit Go.Lib Go.Proofs
set_option linter.unusedVariables false
set_option linter.unusedSimpArgs false
set_option maxRecDepth 1000000
set_option maxHeartbeats 16000000
/-- Bytes with no room behind them. -/
structure TB (w : World) (a : Option Addr) (t : ByteArray) : Prop where
 rd : RdB w a t.size t.data.toList
 no : a = none → t.size = 0
theorem TB.below {w w' : World} {a : Option Addr} {t : ByteArray} (h : TB w a t) (hb : Below w.heap.size w w') : TB w' a t := ⟨h.rd.below hb, h.no⟩
theorem TB.cells {w : World} {a : Option Addr} {t : ByteArray} (h : TB w a t) (h0 : 0 < t.size) : ∃ b off, a = some ⟨b, off, none⟩ ∧ ∀ i, i < t.size → w.cell? ⟨b, off + i, none⟩ = some (.int .u8 (t.get! i).toNat) := by
 obtain ⟨b, off, ha, hc⟩ := h.rd.cell 0 h0
 refine ⟨b, off, ha, fun i hi => ?_⟩
 rw [hc i hi]
 unfold B8
 rw [Utf8W.get!_of_lt t i hi, List.getD_eq_getElem?_getD]
 have : t.data.toList[i]? = some (t.data[i]'hi) := by rw [Array.getElem?_toList]; exact Array.getElem?_eq_getElem hi
 rw [this]
 rfl
/-- Behind the front. -/
theorem TB.drop {w : World} {a : Option Addr} {t : ByteArray} (h : TB w a t) (k : Nat) (hk : k ≤ t.size) : TB w (if t.size = k then a else a.map (·.add (k * 1))) (t.extract k t.size) ∧ (t.extract k t.size).size = t.size - k := by
 have hs : (t.extract k t.size).size = t.size - k := by rw [Lib.ext_size]
 obtain ⟨h1, h2, _, _⟩ := drop_facts h.rd hk (Nat.le_refl _) (fun e => h.no e) rfl
 refine ⟨⟨?_, fun e => by rw [hs]; exact h2 e⟩, hs⟩
 rw [hs, Lib.ext_list]
 exact h1
theorem wordB_any (b off n : Nat) (x0 x1 x2 x3 x4 x5 x6 x7 : UInt8) (w : World) (hn : 8 ≤ n) (c0 : w.cell? ⟨b, off, none⟩ = some (.int .u8 x0.toNat)) (c1 : w.cell? ⟨b, off + 1, none⟩ = some (.int .u8 x1.toNat)) (c2 : w.cell? ⟨b, off + 2, none⟩ = some (.int .u8 x2.toNat)) (c3 : w.cell? ⟨b, off + 3, none⟩ = some (.int .u8 x3.toNat)) (c4 : w.cell? ⟨b, off + 4, none⟩ = some (.int .u8 x4.toNat)) (c5 : w.cell? ⟨b, off + 5, none⟩ = some (.int .u8 x5.toNat)) (c6 : w.cell? ⟨b, off + 6, none⟩ = some (.int .u8 x6.toNat)) (c7 : w.cell? ⟨b, off + 7, none⟩ = some (.int .u8 x7.toNat)) :
  Calls Tryd.prog 71 #[.slice (some ⟨b, off, none⟩) n n] w fun e w' => e = .returned (.int .u64 (Lib.leNat [x0, x1, x2, x3, x4, x5, x6, x7])) ∧ Below w.heap.size w w' := by
 have l0 : x0.toNat < 256 := x0.toNat_lt
 have l1 : x1.toNat < 256 := x1.toNat_lt
 have l2 : x2.toNat < 256 := x2.toNat_lt
 have l3 : x3.toNat < 256 := x3.toNat_lt
 have l4 : x4.toNat < 256 := x4.toNat_lt
 have l5 : x5.toNat < 256 := x5.toNat_lt
 have l6 : x6.toNat < 256 := x6.toNat_lt
 have l7 : x7.toNat < 256 := x7.toNat_lt
 have hv : ((Lib.leNat [x0, x1, x2, x3, x4, x5, x6, x7] : Nat) : Int) = (x0.toNat : Int) + (x1.toNat : Int) * 256 + (x2.toNat : Int) * 65536 + (x3.toNat : Int) * 16777216 + (x4.toNat : Int) * 4294967296 + (x5.toNat : Int) * 1099511627776 + (x6.toNat : Int) * 281474976710656 + (x7.toNat : Int) * 72057594037927936 := by
  simp only [Lib.leNat]
  push_cast
  omega
 have q0 : (0 : Int) < (n : Int) := by omega
 have q1 : (1 : Int) < (n : Int) := by omega
 have q2 : (2 : Int) < (n : Int) := by omega
 have q3 : (3 : Int) < (n : Int) := by omega
 have q4 : (4 : Int) < (n : Int) := by omega
 have q5 : (5 : Int) < (n : Int) := by omega
 have q6 : (6 : Int) < (n : Int) := by omega
 have q7 : (7 : Int) < (n : Int) := by omega
 have HV := hid hv
 clear hv
 have p0 : 0 < n := by omega
 have w0 : IntKind.u64.wrap (x0.toNat : Int) = x0.toNat := by simp (disch := omega) only [u64_wrap_id]
 have p1 : 1 < n := by omega
 have w1 : IntKind.u64.wrap (x1.toNat : Int) = x1.toNat := by simp (disch := omega) only [u64_wrap_id]
 have v1 : IntKind.u64.wrap ((x1.toNat : Int) * 256) = (x1.toNat : Int) * 256 := by simp (disch := omega) only [u64_wrap_id]
 have o1 : bits .or .u64 ((x0.toNat : Int)) ((x1.toNat : Int) * 256) = (x0.toNat : Int) + (x1.toNat : Int) * 256 := by simp (disch := omega) only [u64_or8]
 have p2 : 2 < n := by omega
 have w2 : IntKind.u64.wrap (x2.toNat : Int) = x2.toNat := by simp (disch := omega) only [u64_wrap_id]
 have v2 : IntKind.u64.wrap ((x2.toNat : Int) * 65536) = (x2.toNat : Int) * 65536 := by simp (disch := omega) only [u64_wrap_id]
 have o2 : bits .or .u64 ((x0.toNat : Int) + (x1.toNat : Int) * 256) ((x2.toNat : Int) * 65536) = (x0.toNat : Int) + (x1.toNat : Int) * 256 + (x2.toNat : Int) * 65536 := by simp (disch := omega) only [u64_or16]
 have p3 : 3 < n := by omega
 have w3 : IntKind.u64.wrap (x3.toNat : Int) = x3.toNat := by simp (disch := omega) only [u64_wrap_id]
 have v3 : IntKind.u64.wrap ((x3.toNat : Int) * 16777216) = (x3.toNat : Int) * 16777216 := by simp (disch := omega) only [u64_wrap_id]
 have o3 : bits .or .u64 ((x0.toNat : Int) + (x1.toNat : Int) * 256 + (x2.toNat : Int) * 65536) ((x3.toNat : Int) * 16777216) = (x0.toNat : Int) + (x1.toNat : Int) * 256 + (x2.toNat : Int) * 65536 + (x3.toNat : Int) * 16777216 := by simp (disch := omega) only [u64_or24]
 have p4 : 4 < n := by omega
 have w4 : IntKind.u64.wrap (x4.toNat : Int) = x4.toNat := by simp (disch := omega) only [u64_wrap_id]
 have v4 : IntKind.u64.wrap ((x4.toNat : Int) * 4294967296) = (x4.toNat : Int) * 4294967296 := by simp (disch := omega) only [u64_wrap_id]
 have o4 : bits .or .u64 ((x0.toNat : Int) + (x1.toNat : Int) * 256 + (x2.toNat : Int) * 65536 + (x3.toNat : Int) * 16777216) ((x4.toNat : Int) * 4294967296) = (x0.toNat : Int) + (x1.toNat : Int) * 256 + (x2.toNat : Int) * 65536 + (x3.toNat : Int) * 16777216 + (x4.toNat : Int) * 4294967296 := by simp (disch := omega) only [u64_or32]
 have p5 : 5 < n := by omega
 have w5 : IntKind.u64.wrap (x5.toNat : Int) = x5.toNat := by simp (disch := omega) only [u64_wrap_id]
 have v5 : IntKind.u64.wrap ((x5.toNat : Int) * 1099511627776) = (x5.toNat : Int) * 1099511627776 := by simp (disch := omega) only [u64_wrap_id]
 have o5 : bits .or .u64 ((x0.toNat : Int) + (x1.toNat : Int) * 256 + (x2.toNat : Int) * 65536 + (x3.toNat : Int) * 16777216 + (x4.toNat : Int) * 4294967296) ((x5.toNat : Int) * 1099511627776) = (x0.toNat : Int) + (x1.toNat : Int) * 256 + (x2.toNat : Int) * 65536 + (x3.toNat : Int) * 16777216 + (x4.toNat : Int) * 4294967296 + (x5.toNat : Int) * 1099511627776 := by simp (disch := omega) only [u64_or40]
 have p6 : 6 < n := by omega
 have w6 : IntKind.u64.wrap (x6.toNat : Int) = x6.toNat := by simp (disch := omega) only [u64_wrap_id]
 have v6 : IntKind.u64.wrap ((x6.toNat : Int) * 281474976710656) = (x6.toNat : Int) * 281474976710656 := by simp (disch := omega) only [u64_wrap_id]
 have o6 : bits .or .u64 ((x0.toNat : Int) + (x1.toNat : Int) * 256 + (x2.toNat : Int) * 65536 + (x3.toNat : Int) * 16777216 + (x4.toNat : Int) * 4294967296 + (x5.toNat : Int) * 1099511627776) ((x6.toNat : Int) * 281474976710656) = (x0.toNat : Int) + (x1.toNat : Int) * 256 + (x2.toNat : Int) * 65536 + (x3.toNat : Int) * 16777216 + (x4.toNat : Int) * 4294967296 + (x5.toNat : Int) * 1099511627776 + (x6.toNat : Int) * 281474976710656 := by simp (disch := omega) only [u64_or48]
 have p7 : 7 < n := by omega
 have w7 : IntKind.u64.wrap (x7.toNat : Int) = x7.toNat := by simp (disch := omega) only [u64_wrap_id]
 have v7 : IntKind.u64.wrap ((x7.toNat : Int) * 72057594037927936) = (x7.toNat : Int) * 72057594037927936 := by simp (disch := omega) only [u64_wrap_id]
 have o7 : bits .or .u64 ((x0.toNat : Int) + (x1.toNat : Int) * 256 + (x2.toNat : Int) * 65536 + (x3.toNat : Int) * 16777216 + (x4.toNat : Int) * 4294967296 + (x5.toNat : Int) * 1099511627776 + (x6.toNat : Int) * 281474976710656) ((x7.toNat : Int) * 72057594037927936) = (x0.toNat : Int) + (x1.toNat : Int) * 256 + (x2.toNat : Int) * 65536 + (x3.toNat : Int) * 16777216 + (x4.toNat : Int) * 4294967296 + (x5.toNat : Int) * 1099511627776 + (x6.toNat : Int) * 281474976710656 + (x7.toNat : Int) * 72057594037927936 := by simp (disch := omega) only [u64_or56]
 go_enter Tryd.func71, Tryd.ntmps71
 go_upto_region 2 with (fail)
 refine wp_region_each 46 [.eq (.slice (some ⟨b, off, none⟩) n n), .eq (.pointer (some ⟨b, off, none⟩)), .eq (.int .u8 x0.toNat), .eq (.int .u64 x0.toNat), .eq (.slice (some ⟨b, off, none⟩) n n), .eq (.pointer (some ⟨b, off + 1, none⟩)), .eq (.int .u8 x1.toNat), .eq (.int .u64 x1.toNat), .eq (.int .u64 ((x1.toNat : Int) * 256)), .eq (.int .u64 ((x0.toNat : Int) + (x1.toNat : Int) * 256)), .eq (.slice (some ⟨b, off, none⟩) n n), .eq (.pointer (some ⟨b, off + 2, none⟩)), .eq (.int .u8 x2.toNat), .eq (.int .u64 x2.toNat), .eq (.int .u64 ((x2.toNat : Int) * 65536)), .eq (.int .u64 ((x0.toNat : Int) + (x1.toNat : Int) * 256 + (x2.toNat : Int) * 65536)), .eq (.slice (some ⟨b, off, none⟩) n n), .eq (.pointer (some ⟨b, off + 3, none⟩)), .eq (.int .u8 x3.toNat), .eq (.int .u64 x3.toNat), .eq (.int .u64 ((x3.toNat : Int) * 16777216)), .eq (.int .u64 ((x0.toNat : Int) + (x1.toNat : Int) * 256 + (x2.toNat : Int) * 65536 + (x3.toNat : Int) * 16777216)), .eq (.slice (some ⟨b, off, none⟩) n n), .eq (.pointer (some ⟨b, off + 4, none⟩)), .eq (.int .u8 x4.toNat), .eq (.int .u64 x4.toNat), .eq (.int .u64 ((x4.toNat : Int) * 4294967296)), .eq (.int .u64 ((x0.toNat : Int) + (x1.toNat : Int) * 256 + (x2.toNat : Int) * 65536 + (x3.toNat : Int) * 16777216 + (x4.toNat : Int) * 4294967296)), .eq (.slice (some ⟨b, off, none⟩) n n), .eq (.pointer (some ⟨b, off + 5, none⟩)), .eq (.int .u8 x5.toNat), .eq (.int .u64 x5.toNat), .eq (.int .u64 ((x5.toNat : Int) * 1099511627776)), .eq (.int .u64 ((x0.toNat : Int) + (x1.toNat : Int) * 256 + (x2.toNat : Int) * 65536 + (x3.toNat : Int) * 16777216 + (x4.toNat : Int) * 4294967296 + (x5.toNat : Int) * 1099511627776)), .eq (.slice (some ⟨b, off, none⟩) n n), .eq (.pointer (some ⟨b, off + 6, none⟩)), .eq (.int .u8 x6.toNat), .eq (.int .u64 x6.toNat), .eq (.int .u64 ((x6.toNat : Int) * 281474976710656)), .eq (.int .u64 ((x0.toNat : Int) + (x1.toNat : Int) * 256 + (x2.toNat : Int) * 65536 + (x3.toNat : Int) * 16777216 + (x4.toNat : Int) * 4294967296 + (x5.toNat : Int) * 1099511627776 + (x6.toNat : Int) * 281474976710656)), .eq (.slice (some ⟨b, off, none⟩) n n), .eq (.pointer (some ⟨b, off + 7, none⟩)), .eq (.int .u8 x7.toNat), .eq (.int .u64 x7.toNat), .eq (.int .u64 ((x7.toNat : Int) * 72057594037927936)), .eq (.int .u64 ((x0.toNat : Int) + (x1.toNat : Int) * 256 + (x2.toNat : Int) * 65536 + (x3.toNat : Int) * 16777216 + (x4.toNat : Int) * 4294967296 + (x5.toNat : Int) * 1099511627776 + (x6.toNat : Int) * 281474976710656 + (x7.toNat : Int) * 72057594037927936))] (by kernel_rfl) (by kernel_rfl) (by kernel_rfl) (by kernel_rfl) ?_ ?_
 ·all_goals
   refine each_5 ?_ ?_ ?_ ?_ ?_ (each_5 ?_ ?_ ?_ ?_ ?_ (each_5 ?_ ?_ ?_ ?_ ?_ (each_5 ?_ ?_ ?_ ?_ ?_ (each_5 ?_ ?_ ?_ ?_ ?_ (each_5 ?_ ?_ ?_ ?_ ?_ (each_5 ?_ ?_ ?_ ?_ ?_ (each_5 ?_ ?_ ?_ ?_ ?_ (each_5 ?_ ?_ ?_ ?_ ?_ (each_c ?_ (each_n))))))))))
   ·intro w1 hg Ar seen
    have s0 := seen.sl 0 (.slice (some ⟨b, off, none⟩) n n)
    refine does_plain rfl fun K Q' hK => ?_
    go_simp; exact hK _ _ (Grow.refl _) rfl
   ·intro w1 hg Ar seen
    have e0 := seen.de 0 25
    refine does_plain rfl fun K Q' hK => ?_
    go_simp; exact hK _ _ (Grow.refl _) rfl
   ·intro w1 hg Ar seen
    have e1 := seen.de 1 26
    refine does_plain rfl fun K Q' hK => ?_
    have hc := cell_later hg c0
    go_simp; exact hK _ _ (Grow.refl _) rfl
   ·intro w1 hg Ar seen
    have e2 := seen.de 2 27
    refine does_plain rfl fun K Q' hK => ?_
    go_simp; exact hK _ _ (Grow.refl _) rfl
   ·intro w1 hg Ar seen
    have s0 := seen.sl 0 (.slice (some ⟨b, off, none⟩) n n)
    refine does_plain rfl fun K Q' hK => ?_
    go_simp; exact hK _ _ (Grow.refl _) rfl
   ·intro w1 hg Ar seen
    have e4 := seen.de 4 29
    refine does_plain rfl fun K Q' hK => ?_
    go_simp; exact hK _ _ (Grow.refl _) rfl
   ·intro w1 hg Ar seen
    have e5 := seen.de 5 30
    refine does_plain rfl fun K Q' hK => ?_
    have hc := cell_later hg c1
    go_simp; exact hK _ _ (Grow.refl _) rfl
   ·intro w1 hg Ar seen
    have e6 := seen.de 6 31
    refine does_plain rfl fun K Q' hK => ?_
    go_simp; exact hK _ _ (Grow.refl _) rfl
   ·intro w1 hg Ar seen
    have e7 := seen.de 7 32
    refine does_plain rfl fun K Q' hK => ?_
    go_simp; exact hK _ _ (Grow.refl _) rfl
   ·intro w1 hg Ar seen
    have e3 := seen.de 3 28
    have e8 := seen.de 8 33
    refine does_plain rfl fun K Q' hK => ?_
    go_simp; exact hK _ _ (Grow.refl _) rfl
   ·intro w1 hg Ar seen
    have s0 := seen.sl 0 (.slice (some ⟨b, off, none⟩) n n)
    refine does_plain rfl fun K Q' hK => ?_
    go_simp; exact hK _ _ (Grow.refl _) rfl
   ·intro w1 hg Ar seen
    have e10 := seen.de 10 35
    refine does_plain rfl fun K Q' hK => ?_
    go_simp; exact hK _ _ (Grow.refl _) rfl
   ·intro w1 hg Ar seen
    have e11 := seen.de 11 36
    refine does_plain rfl fun K Q' hK => ?_
    have hc := cell_later hg c2
    go_simp; exact hK _ _ (Grow.refl _) rfl
   ·intro w1 hg Ar seen
    have e12 := seen.de 12 37
    refine does_plain rfl fun K Q' hK => ?_
    go_simp; exact hK _ _ (Grow.refl _) rfl
   ·intro w1 hg Ar seen
    have e13 := seen.de 13 38
    refine does_plain rfl fun K Q' hK => ?_
    go_simp; exact hK _ _ (Grow.refl _) rfl
   ·intro w1 hg Ar seen
    have e9 := seen.de 9 34
    have e14 := seen.de 14 39
    refine does_plain rfl fun K Q' hK => ?_
    go_simp; exact hK _ _ (Grow.refl _) rfl
   ·intro w1 hg Ar seen
    have s0 := seen.sl 0 (.slice (some ⟨b, off, none⟩) n n)
    refine does_plain rfl fun K Q' hK => ?_
    go_simp; exact hK _ _ (Grow.refl _) rfl
   ·intro w1 hg Ar seen
    have e16 := seen.de 16 41
    refine does_plain rfl fun K Q' hK => ?_
    go_simp; exact hK _ _ (Grow.refl _) rfl
   ·intro w1 hg Ar seen
    have e17 := seen.de 17 42
    refine does_plain rfl fun K Q' hK => ?_
    have hc := cell_later hg c3
    go_simp; exact hK _ _ (Grow.refl _) rfl
   ·intro w1 hg Ar seen
    have e18 := seen.de 18 43
    refine does_plain rfl fun K Q' hK => ?_
    go_simp; exact hK _ _ (Grow.refl _) rfl
   ·intro w1 hg Ar seen
    have e19 := seen.de 19 44
    refine does_plain rfl fun K Q' hK => ?_
    go_simp; exact hK _ _ (Grow.refl _) rfl
   ·intro w1 hg Ar seen
    have e15 := seen.de 15 40
    have e20 := seen.de 20 45
    refine does_plain rfl fun K Q' hK => ?_
    go_simp; exact hK _ _ (Grow.refl _) rfl
   ·intro w1 hg Ar seen
    have s0 := seen.sl 0 (.slice (some ⟨b, off, none⟩) n n)
    refine does_plain rfl fun K Q' hK => ?_
    go_simp; exact hK _ _ (Grow.refl _) rfl
   ·intro w1 hg Ar seen
    have e22 := seen.de 22 47
    refine does_plain rfl fun K Q' hK => ?_
    go_simp; exact hK _ _ (Grow.refl _) rfl
   ·intro w1 hg Ar seen
    have e23 := seen.de 23 48
    refine does_plain rfl fun K Q' hK => ?_
    have hc := cell_later hg c4
    go_simp; exact hK _ _ (Grow.refl _) rfl
   ·intro w1 hg Ar seen
    have e24 := seen.de 24 49
    refine does_plain rfl fun K Q' hK => ?_
    go_simp; exact hK _ _ (Grow.refl _) rfl
   ·intro w1 hg Ar seen
    have e25 := seen.de 25 50
    refine does_plain rfl fun K Q' hK => ?_
    go_simp; exact hK _ _ (Grow.refl _) rfl
   ·intro w1 hg Ar seen
    have e21 := seen.de 21 46
    have e26 := seen.de 26 51
    refine does_plain rfl fun K Q' hK => ?_
    go_simp; exact hK _ _ (Grow.refl _) rfl
   ·intro w1 hg Ar seen
    have s0 := seen.sl 0 (.slice (some ⟨b, off, none⟩) n n)
    refine does_plain rfl fun K Q' hK => ?_
    go_simp; exact hK _ _ (Grow.refl _) rfl
   ·intro w1 hg Ar seen
    have e28 := seen.de 28 53
    refine does_plain rfl fun K Q' hK => ?_
    go_simp; exact hK _ _ (Grow.refl _) rfl
   ·intro w1 hg Ar seen
    have e29 := seen.de 29 54
    refine does_plain rfl fun K Q' hK => ?_
    have hc := cell_later hg c5
    go_simp; exact hK _ _ (Grow.refl _) rfl
   ·intro w1 hg Ar seen
    have e30 := seen.de 30 55
    refine does_plain rfl fun K Q' hK => ?_
    go_simp; exact hK _ _ (Grow.refl _) rfl
   ·intro w1 hg Ar seen
    have e31 := seen.de 31 56
    refine does_plain rfl fun K Q' hK => ?_
    go_simp; exact hK _ _ (Grow.refl _) rfl
   ·intro w1 hg Ar seen
    have e27 := seen.de 27 52
    have e32 := seen.de 32 57
    refine does_plain rfl fun K Q' hK => ?_
    go_simp; exact hK _ _ (Grow.refl _) rfl
   ·intro w1 hg Ar seen
    have s0 := seen.sl 0 (.slice (some ⟨b, off, none⟩) n n)
    refine does_plain rfl fun K Q' hK => ?_
    go_simp; exact hK _ _ (Grow.refl _) rfl
   ·intro w1 hg Ar seen
    have e34 := seen.de 34 59
    refine does_plain rfl fun K Q' hK => ?_
    go_simp; exact hK _ _ (Grow.refl _) rfl
   ·intro w1 hg Ar seen
    have e35 := seen.de 35 60
    refine does_plain rfl fun K Q' hK => ?_
    have hc := cell_later hg c6
    go_simp; exact hK _ _ (Grow.refl _) rfl
   ·intro w1 hg Ar seen
    have e36 := seen.de 36 61
    refine does_plain rfl fun K Q' hK => ?_
    go_simp; exact hK _ _ (Grow.refl _) rfl
   ·intro w1 hg Ar seen
    have e37 := seen.de 37 62
    refine does_plain rfl fun K Q' hK => ?_
    go_simp; exact hK _ _ (Grow.refl _) rfl
   ·intro w1 hg Ar seen
    have e33 := seen.de 33 58
    have e38 := seen.de 38 63
    refine does_plain rfl fun K Q' hK => ?_
    go_simp; exact hK _ _ (Grow.refl _) rfl
   ·intro w1 hg Ar seen
    have s0 := seen.sl 0 (.slice (some ⟨b, off, none⟩) n n)
    refine does_plain rfl fun K Q' hK => ?_
    go_simp; exact hK _ _ (Grow.refl _) rfl
   ·intro w1 hg Ar seen
    have e40 := seen.de 40 65
    refine does_plain rfl fun K Q' hK => ?_
    go_simp; exact hK _ _ (Grow.refl _) rfl
   ·intro w1 hg Ar seen
    have e41 := seen.de 41 66
    refine does_plain rfl fun K Q' hK => ?_
    have hc := cell_later hg c7
    go_simp; exact hK _ _ (Grow.refl _) rfl
   ·intro w1 hg Ar seen
    have e42 := seen.de 42 67
    refine does_plain rfl fun K Q' hK => ?_
    go_simp; exact hK _ _ (Grow.refl _) rfl
   ·intro w1 hg Ar seen
    have e43 := seen.de 43 68
    refine does_plain rfl fun K Q' hK => ?_
    go_simp; exact hK _ _ (Grow.refl _) rfl
   ·intro w1 hg Ar seen
    have e39 := seen.de 39 64
    have e44 := seen.de 44 69
    refine does_plain rfl fun K Q' hK => ?_
    go_simp; exact hK _ _ (Grow.refl _) rfl
 intro w1 hg
 refine upon_w' (js := [0, 1, 2, 3, 4, 5, 6, 7, 8, 9, 10, 11, 12, 13, 14, 15, 16, 17, 18, 19, 20, 21, 22, 23, 24, 25, 26, 27, 28, 29, 30, 31, 32, 33, 34, 35, 36, 37, 38, 39, 40, 41, 42, 43, 44, 45]) (by rfl) ?_
 refine upon_e (some 25) (upon_e (some 26) (upon_e (some 27) (upon_e (some 28) (upon_e (some 29) (upon_e (some 30) (upon_e (some 31) (upon_e (some 32) (upon_e (some 33) (upon_e (some 34) (upon_e (some 35) (upon_e (some 36) (upon_e (some 37) (upon_e (some 38) (upon_e (some 39) (upon_e (some 40) (upon_e (some 41) (upon_e (some 42) (upon_e (some 43) (upon_e (some 44) (upon_e (some 45) (upon_e (some 46) (upon_e (some 47) (upon_e (some 48) (upon_e (some 49) (upon_e (some 50) (upon_e (some 51) (upon_e (some 52) (upon_e (some 53) (upon_e (some 54) (upon_e (some 55) (upon_e (some 56) (upon_e (some 57) (upon_e (some 58) (upon_e (some 59) (upon_e (some 60) (upon_e (some 61) (upon_e (some 62) (upon_e (some 63) (upon_e (some 64) (upon_e (some 65) (upon_e (some 66) (upon_e (some 67) (upon_e (some 68) (upon_e (some 69) (upon_e (some 70) (upon_n ?_))))))))))))))))))))))))))))))))))))))))))))))
 have HG := hid hg
 clear hg
 go_simp
 go_wp2
 go_ret
 refine ⟨?_, HG.out⟩
 rw [HV.out]
 rfl
theorem TB.sl {w : World} {a : Option Addr} {t : ByteArray} (h : TB w a t) (k : Nat) (z : Int) (hz : z = (k : Int)) (hk : k ≤ t.size) :
  ∃ a' t', t' = t.extract k t.size ∧ t'.size + k = t.size ∧ TB w a' t' ∧ ∀ W, (Instr.slice 27 (.slice a t.size t.size) (some (.int .i64 z)) none none).run Tryd.prog W = .ok (.slice a' t'.size t'.size) W := by
 subst hz
 obtain ⟨h1, h2⟩ := h.drop k hk
 refine ⟨_, _, rfl, by omega, h1, fun W => ?_⟩
 rw [run_slice_back (P := Tryd.prog) 27 5 1 Tryd.underlying27 (fun w => by kernel_rfl) a t.size t.size k hk W, h2]
theorem run_front3 (a : Option Addr) (n c : Nat) (hn : n ≤ c) (W : World) : (Instr.slice 27 (.slice a n c) none (some (.int .i64 (n : Int))) (some (.int .i64 (n : Int)))).run Tryd.prog W = .ok (.slice a n n) W := by
 have ha : a.map (fun x => x.add 0) = a := by
  cases a with
  | none => rfl
  | some x => simp [Addr.add]
 have hs : ∀ w, (sizeOf 5).run Tryd.prog w = .ok 1 w := fun w => by kernel_rfl
 have h1 : (0 : Int) ≤ (n : Int) ∧ (n : Int) ≤ (c : Int) := by omega
 simp [Instr.slice, run_underlying (P := Tryd.prog) Tryd.underlying27, Instr.sliceBounds, Instr.sliceBound, asIntOf, h1, hs, ha, hn]
def lenOf : Value → Nat
 | .slice _ n _ => n
 | _ => 0
/-- What is left while the bytes are looked through. -/
structure VSt (ANS : Bool) (w : World) (v : Value) (wr : World) : Prop where
 ex : ∃ (a : Option Addr) (t : ByteArray), v = .slice a t.size t.size ∧ TB wr a t ∧ Lib.validD t.data.toList = ANS ∧ t.size ≤ 140737488355328 ∧ Below w.heap.size w wr
set_option maxRecDepth 100000 in
theorem and7' : ∀ X : Fin 256, bits .and .u8 ((X.val : Nat) : Int) 7 = ((X.val % 8 : Nat) : Int) := by decide
theorem validB_any (a : Option Addr) (t : ByteArray) (c : Nat) (w : World) (hr : RdB w a t.size t.data.toList) (hno : a = none → c = 0) (hnc : t.size ≤ c) (hs : t.size ≤ 140737488355328) (hT : UT w) :
  Calls Tryd.prog 70 #[.slice a t.size c] w fun e w' => e = .returned (.bool (Lib.validD t.data.toList)) ∧ Below w.heap.size w w' := by
 obtain ⟨ANS, hANS⟩ : ∃ ANS, Lib.validD t.data.toList = ANS := ⟨_, rfl⟩
 rw [hANS]
 have HT := hid hT
 have h3 := run_front3 a t.size c hnc
 have V0 : Hid (VSt ANS w (.slice a t.size t.size) w) := ⟨⟨a, t, rfl, ⟨hr, fun e => by have := hno e; omega⟩, hANS, hs, Below.refl _ _⟩⟩
 clear hr hno hANS hT
 go_enter Tryd.func70, Tryd.ntmps70
 go_wp2_with fail
 clear h3
 go_loopw [0] (fun v wr => VSt ANS w v wr) (fun v _ => lenOf v)
 case atStart => exact V0.out
 case round =>
  obtain ⟨a, t, rfl, ht, hv, hsm, hbw⟩ := hrel.ex
  clear V0
  have Tt := hid ht; have HV := hid hv; have HB := hid hbw
  have HTr := hid (HT.out.below hbw)
  clear ht hv hbw
  by_cases h0 : 0 < t.size
  ·have h0z : (0 : Int) < (t.size : Int) := by omega
   obtain ⟨b, off, rfl, C⟩ := Tt.out.cells h0
   have HC := hid C
   clear C
   obtain ⟨x0, hx0⟩ : ∃ x0, t.get! 0 = x0 := ⟨_, rfl⟩
   have hx0lt : x0.toNat < 256 := x0.toNat_lt
   have c0 := HC.out 0 h0
   rw [Nat.add_zero, hx0] at c0
   by_cases hasc : x0.toNat < 128
   ·have hascz : (x0.toNat : Int) < 128 := by omega
    have a1 : Lib.Asc t 1 := Lib.asc_one t h0 (by rw [hx0]; exact hasc)
    obtain ⟨a1', t1, ht1, z1, tb1, sl1⟩ := Tt.out.sl 1 1 rfl h0
    have v1 : Lib.validD t1.data.toList = ANS := by rw [ht1, Lib.valid_skip t 1 a1]; exact HV.out
    have Tt1 := hid tb1; have HVt1 := hid v1; have Yt1 := hid z1
    clear a1 ht1 tb1 v1 hx0 HTr z1
    by_cases c8 : 8 < t1.size
    ·have c8z : (8 : Int) < (t1.size : Int) := by omega
     obtain ⟨bt1, ot1, rfl, CA1⟩ := Tt1.out.cells (by (first | omega | (have y0 := Yt1.out; omega) | (have y0 := Yt1.out; have y1 := Yt2.out; omega) | (have y0 := Yt2b.out; omega) | (have y0 := Yt1.out; have y1 := Yt2.out; have y2 := Yt3.out; omega) | (have y0 := Yub.out; omega) | (have y0 := Yuc.out; omega) | (have y0 := Yud.out; omega) | (have y0 := Yu2.out; omega) | (have y0 := Yt1.out; have y1 := Yt2.out; have y2 := Yt3.out; have y3 := Yu2.out; omega)))
     obtain ⟨A1, hA1⟩ : ∃ A1, Lib.leNat [t1.get! 0, t1.get! 1, t1.get! 2, t1.get! 3, t1.get! 4, t1.get! 5, t1.get! 6, t1.get! 7] = A1 := ⟨_, rfl⟩
     have lA1 : A1 < 18446744073709551616 := hA1 ▸ Lib.word_lt t1
     have kA1 := Lib.word_asc t1 (by (first | omega | (have y0 := Yt1.out; omega) | (have y0 := Yt1.out; have y1 := Yt2.out; omega) | (have y0 := Yt2b.out; omega) | (have y0 := Yt1.out; have y1 := Yt2.out; have y2 := Yt3.out; omega) | (have y0 := Yub.out; omega) | (have y0 := Yuc.out; omega) | (have y0 := Yud.out; omega) | (have y0 := Yu2.out; omega) | (have y0 := Yt1.out; have y1 := Yt2.out; have y2 := Yt3.out; have y3 := Yu2.out; omega)))
     rw [hA1] at kA1
     have N8 : 8 ≤ t1.size := (by (first | omega | (have y0 := Yt1.out; omega) | (have y0 := Yt1.out; have y1 := Yt2.out; omega) | (have y0 := Yt2b.out; omega) | (have y0 := Yt1.out; have y1 := Yt2.out; have y2 := Yt3.out; omega) | (have y0 := Yub.out; omega) | (have y0 := Yuc.out; omega) | (have y0 := Yud.out; omega) | (have y0 := Yu2.out; omega) | (have y0 := Yt1.out; have y1 := Yt2.out; have y2 := Yt3.out; have y3 := Yu2.out; omega)))
     have WA1 : Hid (∀ W, Below wr.heap.size wr W → Calls Tryd.prog 71 #[.slice (some ⟨bt1, ot1, none⟩) t1.size t1.size] W fun e w' => e = .returned (.int .u64 A1) ∧ Below W.heap.size W w') := fun W hb => by
      have c := fun i hi => cell_later hb (CA1 i hi)
      rw [← hA1]
      exact wordB_any bt1 ot1 t1.size _ _ _ _ _ _ _ _ W N8 (by have := c 0 (by omega); rwa [Nat.add_zero] at this) (c 1 (by omega)) (c 2 (by omega)) (c 3 (by omega)) (c 4 (by omega)) (c 5 (by omega)) (c 6 (by omega)) (c 7 (by omega))
     clear CA1 hA1 N8
     have hand1 : bits .and .u64 (A1 : Int) 9259542123273814144 = ((A1 &&& 9259542123273814144 : Nat) : Int) := u64_and_nat _ 9259542123273814144 lA1 (by omega)
     obtain ⟨Z1, hZ1⟩ : ∃ Z1, A1 &&& 9259542123273814144 = Z1 := ⟨_, rfl⟩
     rw [hZ1] at hand1
     by_cases hz1 : Z1 = 0
     ·have hz1b : ((Z1 : Int) == 0) = true := by simp [hz1]
      obtain ⟨at2, t2, ht2, zt2, tbt2, slt2⟩ := Tt1.out.sl 8 8 rfl (by (first | omega | (have y0 := Yt1.out; omega) | (have y0 := Yt1.out; have y1 := Yt2.out; omega) | (have y0 := Yt2b.out; omega) | (have y0 := Yt1.out; have y1 := Yt2.out; have y2 := Yt3.out; omega) | (have y0 := Yub.out; omega) | (have y0 := Yuc.out; omega) | (have y0 := Yud.out; omega) | (have y0 := Yu2.out; omega) | (have y0 := Yt1.out; have y1 := Yt2.out; have y2 := Yt3.out; have y3 := Yu2.out; omega)))
      have Tt2 := hid tbt2
      have Yt2 := hid zt2
      clear tbt2 zt2
      have a8 : Lib.Asc t1 8 := kA1.1 (hZ1.trans hz1)
      have HVt2 : Hid (Lib.validD t2.data.toList = ANS) := by show _ = _; rw [ht2, Lib.valid_skip t1 8 a8]; exact HVt1.out
      clear a8 kA1 hZ1 ht2
      go_wp2_with fail
      refine (WA1.out _ (Below.refl _ _)).mono ?_
      rintro e W1 ⟨rfl, hb1⟩
      dsimp only
      have HB' := hid (HB.out.trans (Below.mono hb1 HB.out.size))
      have Tt2' := hid (Tt2.out.below hb1)
      clear HB Tt2 WA1 hb1 Tt1
      have HB := HB'
      have Tt2 := Tt2'
      clear HB' Tt2'
      go_upto_region 8 with (fail)
      by_cases c16 : 16 < t2.size
      ·have c16z : (16 : Int) < (t2.size : Int) := by omega
       have s8z : (8 : Int) ≤ (t2.size : Int) := by omega
       obtain ⟨at2b, t2b, ht2b, zt2b, tbt2b, slt2b⟩ := Tt2.out.sl 8 8 rfl (by (first | omega | (have y0 := Yt1.out; omega) | (have y0 := Yt1.out; have y1 := Yt2.out; omega) | (have y0 := Yt2b.out; omega) | (have y0 := Yt1.out; have y1 := Yt2.out; have y2 := Yt3.out; omega) | (have y0 := Yub.out; omega) | (have y0 := Yuc.out; omega) | (have y0 := Yud.out; omega) | (have y0 := Yu2.out; omega) | (have y0 := Yt1.out; have y1 := Yt2.out; have y2 := Yt3.out; have y3 := Yu2.out; omega)))
       have Tt2b := hid tbt2b
       have Yt2b := hid zt2b
       clear tbt2b zt2b
       obtain ⟨bt2, ot2, rfl, CA2⟩ := Tt2.out.cells (by (first | omega | (have y0 := Yt1.out; omega) | (have y0 := Yt1.out; have y1 := Yt2.out; omega) | (have y0 := Yt2b.out; omega) | (have y0 := Yt1.out; have y1 := Yt2.out; have y2 := Yt3.out; omega) | (have y0 := Yub.out; omega) | (have y0 := Yuc.out; omega) | (have y0 := Yud.out; omega) | (have y0 := Yu2.out; omega) | (have y0 := Yt1.out; have y1 := Yt2.out; have y2 := Yt3.out; have y3 := Yu2.out; omega)))
       obtain ⟨A2, hA2⟩ : ∃ A2, Lib.leNat [t2.get! 0, t2.get! 1, t2.get! 2, t2.get! 3, t2.get! 4, t2.get! 5, t2.get! 6, t2.get! 7] = A2 := ⟨_, rfl⟩
       have lA2 : A2 < 18446744073709551616 := hA2 ▸ Lib.word_lt t2
       have kA2 := Lib.word_asc t2 (by (first | omega | (have y0 := Yt1.out; omega) | (have y0 := Yt1.out; have y1 := Yt2.out; omega) | (have y0 := Yt2b.out; omega) | (have y0 := Yt1.out; have y1 := Yt2.out; have y2 := Yt3.out; omega) | (have y0 := Yub.out; omega) | (have y0 := Yuc.out; omega) | (have y0 := Yud.out; omega) | (have y0 := Yu2.out; omega) | (have y0 := Yt1.out; have y1 := Yt2.out; have y2 := Yt3.out; have y3 := Yu2.out; omega)))
       rw [hA2] at kA2
       have N8 : 8 ≤ t2.size := (by (first | omega | (have y0 := Yt1.out; omega) | (have y0 := Yt1.out; have y1 := Yt2.out; omega) | (have y0 := Yt2b.out; omega) | (have y0 := Yt1.out; have y1 := Yt2.out; have y2 := Yt3.out; omega) | (have y0 := Yub.out; omega) | (have y0 := Yuc.out; omega) | (have y0 := Yud.out; omega) | (have y0 := Yu2.out; omega) | (have y0 := Yt1.out; have y1 := Yt2.out; have y2 := Yt3.out; have y3 := Yu2.out; omega)))
       have WA2 : Hid (∀ W, Below W1.heap.size W1 W → Calls Tryd.prog 71 #[.slice (some ⟨bt2, ot2, none⟩) t2.size t2.size] W fun e w' => e = .returned (.int .u64 A2) ∧ Below W.heap.size W w') := fun W hb => by
        have c := fun i hi => cell_later hb (CA2 i hi)
        rw [← hA2]
        exact wordB_any bt2 ot2 t2.size _ _ _ _ _ _ _ _ W N8 (by have := c 0 (by omega); rwa [Nat.add_zero] at this) (c 1 (by omega)) (c 2 (by omega)) (c 3 (by omega)) (c 4 (by omega)) (c 5 (by omega)) (c 6 (by omega)) (c 7 (by omega))
       clear CA2 hA2 N8
       obtain ⟨bt2b, ot2b, rfl, CA3⟩ := Tt2b.out.cells (by (first | omega | (have y0 := Yt1.out; omega) | (have y0 := Yt1.out; have y1 := Yt2.out; omega) | (have y0 := Yt2b.out; omega) | (have y0 := Yt1.out; have y1 := Yt2.out; have y2 := Yt3.out; omega) | (have y0 := Yub.out; omega) | (have y0 := Yuc.out; omega) | (have y0 := Yud.out; omega) | (have y0 := Yu2.out; omega) | (have y0 := Yt1.out; have y1 := Yt2.out; have y2 := Yt3.out; have y3 := Yu2.out; omega)))
       obtain ⟨A3, hA3⟩ : ∃ A3, Lib.leNat [t2b.get! 0, t2b.get! 1, t2b.get! 2, t2b.get! 3, t2b.get! 4, t2b.get! 5, t2b.get! 6, t2b.get! 7] = A3 := ⟨_, rfl⟩
       have lA3 : A3 < 18446744073709551616 := hA3 ▸ Lib.word_lt t2b
       have kA3 := Lib.word_asc t2b (by (first | omega | (have y0 := Yt1.out; omega) | (have y0 := Yt1.out; have y1 := Yt2.out; omega) | (have y0 := Yt2b.out; omega) | (have y0 := Yt1.out; have y1 := Yt2.out; have y2 := Yt3.out; omega) | (have y0 := Yub.out; omega) | (have y0 := Yuc.out; omega) | (have y0 := Yud.out; omega) | (have y0 := Yu2.out; omega) | (have y0 := Yt1.out; have y1 := Yt2.out; have y2 := Yt3.out; have y3 := Yu2.out; omega)))
       rw [hA3] at kA3
       have N8 : 8 ≤ t2b.size := (by (first | omega | (have y0 := Yt1.out; omega) | (have y0 := Yt1.out; have y1 := Yt2.out; omega) | (have y0 := Yt2b.out; omega) | (have y0 := Yt1.out; have y1 := Yt2.out; have y2 := Yt3.out; omega) | (have y0 := Yub.out; omega) | (have y0 := Yuc.out; omega) | (have y0 := Yud.out; omega) | (have y0 := Yu2.out; omega) | (have y0 := Yt1.out; have y1 := Yt2.out; have y2 := Yt3.out; have y3 := Yu2.out; omega)))
       have WA3 : Hid (∀ W, Below W1.heap.size W1 W → Calls Tryd.prog 71 #[.slice (some ⟨bt2b, ot2b, none⟩) t2b.size t2b.size] W fun e w' => e = .returned (.int .u64 A3) ∧ Below W.heap.size W w') := fun W hb => by
        have c := fun i hi => cell_later hb (CA3 i hi)
        rw [← hA3]
        exact wordB_any bt2b ot2b t2b.size _ _ _ _ _ _ _ _ W N8 (by have := c 0 (by omega); rwa [Nat.add_zero] at this) (c 1 (by omega)) (c 2 (by omega)) (c 3 (by omega)) (c 4 (by omega)) (c 5 (by omega)) (c 6 (by omega)) (c 7 (by omega))
       clear CA3 hA3 N8
       have ho2 : bits .or .u64 (A2 : Int) (A3 : Int) = ((A2 ||| A3 : Nat) : Int) := u64_or_nat A2 A3 lA2 lA3
       have lO2 : A2 ||| A3 < 18446744073709551616 := Nat.or_lt_two_pow (n := 64) lA2 lA3
       obtain ⟨O2, hO2⟩ : ∃ O2, A2 ||| A3 = O2 := ⟨_, rfl⟩
       rw [hO2] at ho2 lO2
       have hand2 : bits .and .u64 (O2 : Int) 9259542123273814144 = ((O2 &&& 9259542123273814144 : Nat) : Int) := u64_and_nat _ 9259542123273814144 lO2 (by omega)
       obtain ⟨Z2, hZ2⟩ : ∃ Z2, O2 &&& 9259542123273814144 = Z2 := ⟨_, rfl⟩
       rw [hZ2] at hand2
       have k2 : Z2 = 0 → Lib.Asc t2 16 := fun h0' => by
        rw [← hZ2, ← hO2] at h0'
        obtain ⟨e1, e2⟩ := (Lib.or_mask A2 A3 _).1 h0'
        exact Lib.asc_add t2 8 8 (kA2.1 e1) (by rw [← ht2b]; exact kA3.1 e2)
       have K2 := hid k2
       clear k2 hZ2 hO2 kA2 kA3 ht2b lO2 lA2 lA3
       by_cases hz2 : Z2 = 0
       ·have hz2b : ((Z2 : Int) == 0) = true := by simp [hz2]
        have a16 := K2.out hz2
        clear hz2
        obtain ⟨at3, t3, ht3, zt3, tbt3, slt3⟩ := Tt2.out.sl 16 16 rfl (by (first | omega | (have y0 := Yt1.out; omega) | (have y0 := Yt1.out; have y1 := Yt2.out; omega) | (have y0 := Yt2b.out; omega) | (have y0 := Yt1.out; have y1 := Yt2.out; have y2 := Yt3.out; omega) | (have y0 := Yub.out; omega) | (have y0 := Yuc.out; omega) | (have y0 := Yud.out; omega) | (have y0 := Yu2.out; omega) | (have y0 := Yt1.out; have y1 := Yt2.out; have y2 := Yt3.out; have y3 := Yu2.out; omega)))
        have Tt3 := hid tbt3
        have Yt3 := hid zt3
        clear tbt3 zt3
        have HVt3 : Hid (Lib.validD t3.data.toList = ANS) := by show _ = _; rw [ht3, Lib.valid_skip t2 16 a16]; exact HVt2.out
        clear a16 ht3
        refine wp_region_each 13 [.eq (.slice (some ⟨bt2, ot2, none⟩) t2.size t2.size), .eq (.int .i64 (t2.size : Int)), .eq (.bool true), .eq (.bool true), .eq (.slice (some ⟨bt2, ot2, none⟩) t2.size t2.size), .eq (.int .u64 (A2 : Nat)), .eq (.slice (some ⟨bt2, ot2, none⟩) t2.size t2.size), .eq (.slice (some ⟨bt2b, ot2b, none⟩) t2b.size t2b.size), .eq (.int .u64 (A3 : Nat)), .eq (.int .u64 (O2 : Nat)), .eq (.int .u64 (Z2 : Nat)), .eq (.bool true), .eq (.bool true)] (by kernel_rfl) (by kernel_rfl) (by kernel_rfl) (by kernel_rfl) ?_ ?_
        ·all_goals
          refine each_5 ?_ ?_ ?_ ?_ ?_ (each_5 ?_ ?_ ?_ ?_ ?_ (each_c ?_ (each_c ?_ (each_c ?_ (each_n)))))
          ·intro w1 hg Ar seen
           have s0 := seen.sl 0 (.slice (some ⟨bt2, ot2, none⟩) t2.size t2.size)
           refine does_plain rfl fun K Q' hK => ?_
           go_simp; exact hK _ _ (Grow.refl _) rfl
          ·intro w1 hg Ar seen
           have e0 := seen.de 0 34
           refine does_plain rfl fun K Q' hK => ?_
           go_simp; exact hK _ _ (Grow.refl _) rfl
          ·intro w1 hg Ar seen
           have e1 := seen.de 1 35
           refine does_plain rfl fun K Q' hK => ?_
           go_simp; exact hK _ _ (Grow.refl _) rfl
          ·intro w1 hg Ar seen
           have e2 := seen.de 2 36
           refine does_plain rfl fun K Q' hK => ?_
           go_simp; exact hK _ _ (Grow.refl _) rfl
          ·intro w1 hg Ar seen
           have e3 := seen.de 3 37
           have s0 := seen.sl 0 (.slice (some ⟨bt2, ot2, none⟩) t2.size t2.size)
           refine does_on rfl (by kernel_rfl) e3 fun K Q' hK => ?_
           clear e3
           go_simp; exact hK _ _ (Grow.refl _) rfl
          ·intro w1 hg Ar seen
           have e4 := seen.de 4 38
           have e3 := seen.de 3 37
           refine does_on rfl (by kernel_rfl) e3 fun K Q' hK => ?_
           clear e3
           go_simp
           refine (WA2.out _ hg).mono ?_
           rintro e u ⟨rfl, hb⟩
           exact hK _ _ hb rfl
          ·intro w1 hg Ar seen
           have e3 := seen.de 3 37
           have s0 := seen.sl 0 (.slice (some ⟨bt2, ot2, none⟩) t2.size t2.size)
           refine does_on rfl (by kernel_rfl) e3 fun K Q' hK => ?_
           clear e3
           go_simp; exact hK _ _ (Grow.refl _) rfl
          ·intro w1 hg Ar seen
           have e6 := seen.de 6 40
           have e3 := seen.de 3 37
           refine does_on rfl (by kernel_rfl) e3 fun K Q' hK => ?_
           clear e3
           have hs := slt2b
           go_simp; exact hK _ _ (Grow.refl _) rfl
          ·intro w1 hg Ar seen
           have e7 := seen.de 7 41
           have e3 := seen.de 3 37
           refine does_on rfl (by kernel_rfl) e3 fun K Q' hK => ?_
           clear e3
           go_simp
           refine (WA3.out _ hg).mono ?_
           rintro e u ⟨rfl, hb⟩
           exact hK _ _ hb rfl
          ·intro w1 hg Ar seen
           have e5 := seen.de 5 39
           have e8 := seen.de 8 42
           have e3 := seen.de 3 37
           refine does_on rfl (by kernel_rfl) e3 fun K Q' hK => ?_
           clear e3
           go_simp; exact hK _ _ (Grow.refl _) rfl
          ·intro w1 hg Ar seen
           have e9 := seen.de 9 43
           have e3 := seen.de 3 37
           refine does_on rfl (by kernel_rfl) e3 fun K Q' hK => ?_
           clear e3
           go_simp; exact hK _ _ (Grow.refl _) rfl
          ·intro w1 hg Ar seen
           have e10 := seen.de 10 44
           have e3 := seen.de 3 37
           refine does_on rfl (by kernel_rfl) e3 fun K Q' hK => ?_
           clear e3
           go_simp; exact hK _ _ (Grow.refl _) rfl
          ·intro w1 hg Ar seen
           have e3 := seen.de 3 37
           have e11 := seen.de 11 45
           refine does_plain rfl fun K Q' hK => ?_
           go_simp; exact hK _ _ (Grow.refl _) rfl
        intro w1 hg
        refine upon_w' (js := [0, 1, 2, 3, 4, 5, 6, 7, 8, 9, 10, 11, 12]) (by rfl) ?_
        refine upon_e (some 34) (upon_e (some 35) (upon_e (some 36) (upon_e (some 37) (upon_e (some 38) (upon_e (some 39) (upon_e (some 40) (upon_e (some 41) (upon_e (some 42) (upon_e (some 43) (upon_e (some 44) (upon_e (some 45) (upon_e (some 46) (upon_n ?_)))))))))))))
        go_simp
        have HB' := hid (HB.out.trans (Below.mono hg HB.out.size))
        clear HB
        have HB := HB'
        clear HB'
        have HG8 := hid hg
        clear hg
        go_simp
        go_wp2_with fail
        go_loopw [0] (fun v wr2 => VSt ANS w v wr2 ∧ lenOf v ≤ t3.size) (fun v _ => lenOf v)
        case atStart => exact ⟨⟨⟨_, t3, rfl, Tt3.out.below HG8.out, HVt3.out, (by (first | omega | (have y0 := Yt1.out; omega) | (have y0 := Yt1.out; have y1 := Yt2.out; omega) | (have y0 := Yt2b.out; omega) | (have y0 := Yt1.out; have y1 := Yt2.out; have y2 := Yt3.out; omega) | (have y0 := Yub.out; omega) | (have y0 := Yuc.out; omega) | (have y0 := Yud.out; omega) | (have y0 := Yu2.out; omega) | (have y0 := Yt1.out; have y1 := Yt2.out; have y2 := Yt3.out; have y3 := Yu2.out; omega))), HB.out⟩⟩, Nat.le_refl t3.size⟩
        case round =>
         obtain ⟨hv2, hle⟩ := hrel
         obtain ⟨au, u, rfl, ht, hv, husm, hbw⟩ := hv2.ex
         clear HB
         have Tu := hid ht; have HVu := hid hv; have HB := hid hbw
         have hut : u.size ≤ t3.size := hle
         clear ht hv hbw hv2 hle
         by_cases c32 : 32 < u.size
         ·have c32z : (32 : Int) < (u.size : Int) := by omega
          have su : (8 : Int) ≤ (u.size : Int) ∧ (16 : Int) ≤ (u.size : Int) ∧ (24 : Int) ≤ (u.size : Int) := by omega
          obtain ⟨aub, ub, hub, zub, tbub, slub⟩ := Tu.out.sl 8 8 rfl (by (first | omega | (have y0 := Yt1.out; omega) | (have y0 := Yt1.out; have y1 := Yt2.out; omega) | (have y0 := Yt2b.out; omega) | (have y0 := Yt1.out; have y1 := Yt2.out; have y2 := Yt3.out; omega) | (have y0 := Yub.out; omega) | (have y0 := Yuc.out; omega) | (have y0 := Yud.out; omega) | (have y0 := Yu2.out; omega) | (have y0 := Yt1.out; have y1 := Yt2.out; have y2 := Yt3.out; have y3 := Yu2.out; omega)))
          have Tub := hid tbub
          have Yub := hid zub
          clear tbub zub
          obtain ⟨auc, uc, huc, zuc, tbuc, sluc⟩ := Tu.out.sl 16 16 rfl (by (first | omega | (have y0 := Yt1.out; omega) | (have y0 := Yt1.out; have y1 := Yt2.out; omega) | (have y0 := Yt2b.out; omega) | (have y0 := Yt1.out; have y1 := Yt2.out; have y2 := Yt3.out; omega) | (have y0 := Yub.out; omega) | (have y0 := Yuc.out; omega) | (have y0 := Yud.out; omega) | (have y0 := Yu2.out; omega) | (have y0 := Yt1.out; have y1 := Yt2.out; have y2 := Yt3.out; have y3 := Yu2.out; omega)))
          have Tuc := hid tbuc
          have Yuc := hid zuc
          clear tbuc zuc
          obtain ⟨aud, ud, hud, zud, tbud, slud⟩ := Tu.out.sl 24 24 rfl (by (first | omega | (have y0 := Yt1.out; omega) | (have y0 := Yt1.out; have y1 := Yt2.out; omega) | (have y0 := Yt2b.out; omega) | (have y0 := Yt1.out; have y1 := Yt2.out; have y2 := Yt3.out; omega) | (have y0 := Yub.out; omega) | (have y0 := Yuc.out; omega) | (have y0 := Yud.out; omega) | (have y0 := Yu2.out; omega) | (have y0 := Yt1.out; have y1 := Yt2.out; have y2 := Yt3.out; have y3 := Yu2.out; omega)))
          have Tud := hid tbud
          have Yud := hid zud
          clear tbud zud
          obtain ⟨bu, ou, rfl, CB0⟩ := Tu.out.cells (by (first | omega | (have y0 := Yt1.out; omega) | (have y0 := Yt1.out; have y1 := Yt2.out; omega) | (have y0 := Yt2b.out; omega) | (have y0 := Yt1.out; have y1 := Yt2.out; have y2 := Yt3.out; omega) | (have y0 := Yub.out; omega) | (have y0 := Yuc.out; omega) | (have y0 := Yud.out; omega) | (have y0 := Yu2.out; omega) | (have y0 := Yt1.out; have y1 := Yt2.out; have y2 := Yt3.out; have y3 := Yu2.out; omega)))
          obtain ⟨B0, hB0⟩ : ∃ B0, Lib.leNat [u.get! 0, u.get! 1, u.get! 2, u.get! 3, u.get! 4, u.get! 5, u.get! 6, u.get! 7] = B0 := ⟨_, rfl⟩
          have lB0 : B0 < 18446744073709551616 := hB0 ▸ Lib.word_lt u
          have kB0 := Lib.word_asc u (by (first | omega | (have y0 := Yt1.out; omega) | (have y0 := Yt1.out; have y1 := Yt2.out; omega) | (have y0 := Yt2b.out; omega) | (have y0 := Yt1.out; have y1 := Yt2.out; have y2 := Yt3.out; omega) | (have y0 := Yub.out; omega) | (have y0 := Yuc.out; omega) | (have y0 := Yud.out; omega) | (have y0 := Yu2.out; omega) | (have y0 := Yt1.out; have y1 := Yt2.out; have y2 := Yt3.out; have y3 := Yu2.out; omega)))
          rw [hB0] at kB0
          have N8 : 8 ≤ u.size := (by (first | omega | (have y0 := Yt1.out; omega) | (have y0 := Yt1.out; have y1 := Yt2.out; omega) | (have y0 := Yt2b.out; omega) | (have y0 := Yt1.out; have y1 := Yt2.out; have y2 := Yt3.out; omega) | (have y0 := Yub.out; omega) | (have y0 := Yuc.out; omega) | (have y0 := Yud.out; omega) | (have y0 := Yu2.out; omega) | (have y0 := Yt1.out; have y1 := Yt2.out; have y2 := Yt3.out; have y3 := Yu2.out; omega)))
          have WB0 : Hid (∀ W, Below wr.heap.size wr W → Calls Tryd.prog 71 #[.slice (some ⟨bu, ou, none⟩) u.size u.size] W fun e w' => e = .returned (.int .u64 B0) ∧ Below W.heap.size W w') := fun W hb => by
           have c := fun i hi => cell_later hb (CB0 i hi)
           rw [← hB0]
           exact wordB_any bu ou u.size _ _ _ _ _ _ _ _ W N8 (by have := c 0 (by omega); rwa [Nat.add_zero] at this) (c 1 (by omega)) (c 2 (by omega)) (c 3 (by omega)) (c 4 (by omega)) (c 5 (by omega)) (c 6 (by omega)) (c 7 (by omega))
          clear CB0 hB0 N8
          obtain ⟨bub, oub, rfl, CB1⟩ := Tub.out.cells (by (first | omega | (have y0 := Yt1.out; omega) | (have y0 := Yt1.out; have y1 := Yt2.out; omega) | (have y0 := Yt2b.out; omega) | (have y0 := Yt1.out; have y1 := Yt2.out; have y2 := Yt3.out; omega) | (have y0 := Yub.out; omega) | (have y0 := Yuc.out; omega) | (have y0 := Yud.out; omega) | (have y0 := Yu2.out; omega) | (have y0 := Yt1.out; have y1 := Yt2.out; have y2 := Yt3.out; have y3 := Yu2.out; omega)))
          obtain ⟨B1, hB1⟩ : ∃ B1, Lib.leNat [ub.get! 0, ub.get! 1, ub.get! 2, ub.get! 3, ub.get! 4, ub.get! 5, ub.get! 6, ub.get! 7] = B1 := ⟨_, rfl⟩
          have lB1 : B1 < 18446744073709551616 := hB1 ▸ Lib.word_lt ub
          have kB1 := Lib.word_asc ub (by (first | omega | (have y0 := Yt1.out; omega) | (have y0 := Yt1.out; have y1 := Yt2.out; omega) | (have y0 := Yt2b.out; omega) | (have y0 := Yt1.out; have y1 := Yt2.out; have y2 := Yt3.out; omega) | (have y0 := Yub.out; omega) | (have y0 := Yuc.out; omega) | (have y0 := Yud.out; omega) | (have y0 := Yu2.out; omega) | (have y0 := Yt1.out; have y1 := Yt2.out; have y2 := Yt3.out; have y3 := Yu2.out; omega)))
          rw [hB1] at kB1
          have N8 : 8 ≤ ub.size := (by (first | omega | (have y0 := Yt1.out; omega) | (have y0 := Yt1.out; have y1 := Yt2.out; omega) | (have y0 := Yt2b.out; omega) | (have y0 := Yt1.out; have y1 := Yt2.out; have y2 := Yt3.out; omega) | (have y0 := Yub.out; omega) | (have y0 := Yuc.out; omega) | (have y0 := Yud.out; omega) | (have y0 := Yu2.out; omega) | (have y0 := Yt1.out; have y1 := Yt2.out; have y2 := Yt3.out; have y3 := Yu2.out; omega)))
          have WB1 : Hid (∀ W, Below wr.heap.size wr W → Calls Tryd.prog 71 #[.slice (some ⟨bub, oub, none⟩) ub.size ub.size] W fun e w' => e = .returned (.int .u64 B1) ∧ Below W.heap.size W w') := fun W hb => by
           have c := fun i hi => cell_later hb (CB1 i hi)
           rw [← hB1]
           exact wordB_any bub oub ub.size _ _ _ _ _ _ _ _ W N8 (by have := c 0 (by omega); rwa [Nat.add_zero] at this) (c 1 (by omega)) (c 2 (by omega)) (c 3 (by omega)) (c 4 (by omega)) (c 5 (by omega)) (c 6 (by omega)) (c 7 (by omega))
          clear CB1 hB1 N8
          obtain ⟨buc, ouc, rfl, CB2⟩ := Tuc.out.cells (by (first | omega | (have y0 := Yt1.out; omega) | (have y0 := Yt1.out; have y1 := Yt2.out; omega) | (have y0 := Yt2b.out; omega) | (have y0 := Yt1.out; have y1 := Yt2.out; have y2 := Yt3.out; omega) | (have y0 := Yub.out; omega) | (have y0 := Yuc.out; omega) | (have y0 := Yud.out; omega) | (have y0 := Yu2.out; omega) | (have y0 := Yt1.out; have y1 := Yt2.out; have y2 := Yt3.out; have y3 := Yu2.out; omega)))
          obtain ⟨B2, hB2⟩ : ∃ B2, Lib.leNat [uc.get! 0, uc.get! 1, uc.get! 2, uc.get! 3, uc.get! 4, uc.get! 5, uc.get! 6, uc.get! 7] = B2 := ⟨_, rfl⟩
          have lB2 : B2 < 18446744073709551616 := hB2 ▸ Lib.word_lt uc
          have kB2 := Lib.word_asc uc (by (first | omega | (have y0 := Yt1.out; omega) | (have y0 := Yt1.out; have y1 := Yt2.out; omega) | (have y0 := Yt2b.out; omega) | (have y0 := Yt1.out; have y1 := Yt2.out; have y2 := Yt3.out; omega) | (have y0 := Yub.out; omega) | (have y0 := Yuc.out; omega) | (have y0 := Yud.out; omega) | (have y0 := Yu2.out; omega) | (have y0 := Yt1.out; have y1 := Yt2.out; have y2 := Yt3.out; have y3 := Yu2.out; omega)))
          rw [hB2] at kB2
          have N8 : 8 ≤ uc.size := (by (first | omega | (have y0 := Yt1.out; omega) | (have y0 := Yt1.out; have y1 := Yt2.out; omega) | (have y0 := Yt2b.out; omega) | (have y0 := Yt1.out; have y1 := Yt2.out; have y2 := Yt3.out; omega) | (have y0 := Yub.out; omega) | (have y0 := Yuc.out; omega) | (have y0 := Yud.out; omega) | (have y0 := Yu2.out; omega) | (have y0 := Yt1.out; have y1 := Yt2.out; have y2 := Yt3.out; have y3 := Yu2.out; omega)))
          have WB2 : Hid (∀ W, Below wr.heap.size wr W → Calls Tryd.prog 71 #[.slice (some ⟨buc, ouc, none⟩) uc.size uc.size] W fun e w' => e = .returned (.int .u64 B2) ∧ Below W.heap.size W w') := fun W hb => by
           have c := fun i hi => cell_later hb (CB2 i hi)
           rw [← hB2]
           exact wordB_any buc ouc uc.size _ _ _ _ _ _ _ _ W N8 (by have := c 0 (by omega); rwa [Nat.add_zero] at this) (c 1 (by omega)) (c 2 (by omega)) (c 3 (by omega)) (c 4 (by omega)) (c 5 (by omega)) (c 6 (by omega)) (c 7 (by omega))
          clear CB2 hB2 N8
          obtain ⟨bud, oud, rfl, CB3⟩ := Tud.out.cells (by (first | omega | (have y0 := Yt1.out; omega) | (have y0 := Yt1.out; have y1 := Yt2.out; omega) | (have y0 := Yt2b.out; omega) | (have y0 := Yt1.out; have y1 := Yt2.out; have y2 := Yt3.out; omega) | (have y0 := Yub.out; omega) | (have y0 := Yuc.out; omega) | (have y0 := Yud.out; omega) | (have y0 := Yu2.out; omega) | (have y0 := Yt1.out; have y1 := Yt2.out; have y2 := Yt3.out; have y3 := Yu2.out; omega)))
          obtain ⟨B3, hB3⟩ : ∃ B3, Lib.leNat [ud.get! 0, ud.get! 1, ud.get! 2, ud.get! 3, ud.get! 4, ud.get! 5, ud.get! 6, ud.get! 7] = B3 := ⟨_, rfl⟩
          have lB3 : B3 < 18446744073709551616 := hB3 ▸ Lib.word_lt ud
          have kB3 := Lib.word_asc ud (by (first | omega | (have y0 := Yt1.out; omega) | (have y0 := Yt1.out; have y1 := Yt2.out; omega) | (have y0 := Yt2b.out; omega) | (have y0 := Yt1.out; have y1 := Yt2.out; have y2 := Yt3.out; omega) | (have y0 := Yub.out; omega) | (have y0 := Yuc.out; omega) | (have y0 := Yud.out; omega) | (have y0 := Yu2.out; omega) | (have y0 := Yt1.out; have y1 := Yt2.out; have y2 := Yt3.out; have y3 := Yu2.out; omega)))
          rw [hB3] at kB3
          have N8 : 8 ≤ ud.size := (by (first | omega | (have y0 := Yt1.out; omega) | (have y0 := Yt1.out; have y1 := Yt2.out; omega) | (have y0 := Yt2b.out; omega) | (have y0 := Yt1.out; have y1 := Yt2.out; have y2 := Yt3.out; omega) | (have y0 := Yub.out; omega) | (have y0 := Yuc.out; omega) | (have y0 := Yud.out; omega) | (have y0 := Yu2.out; omega) | (have y0 := Yt1.out; have y1 := Yt2.out; have y2 := Yt3.out; have y3 := Yu2.out; omega)))
          have WB3 : Hid (∀ W, Below wr.heap.size wr W → Calls Tryd.prog 71 #[.slice (some ⟨bud, oud, none⟩) ud.size ud.size] W fun e w' => e = .returned (.int .u64 B3) ∧ Below W.heap.size W w') := fun W hb => by
           have c := fun i hi => cell_later hb (CB3 i hi)
           rw [← hB3]
           exact wordB_any bud oud ud.size _ _ _ _ _ _ _ _ W N8 (by have := c 0 (by omega); rwa [Nat.add_zero] at this) (c 1 (by omega)) (c 2 (by omega)) (c 3 (by omega)) (c 4 (by omega)) (c 5 (by omega)) (c 6 (by omega)) (c 7 (by omega))
          clear CB3 hB3 N8
          have ho1 : bits .or .u64 (B0 : Int) (B1 : Int) = ((B0 ||| B1 : Nat) : Int) := u64_or_nat B0 B1 lB0 lB1
          have lP1 : B0 ||| B1 < 18446744073709551616 := Nat.or_lt_two_pow (n := 64) lB0 lB1
          obtain ⟨P1, hP1⟩ : ∃ P1, B0 ||| B1 = P1 := ⟨_, rfl⟩
          rw [hP1] at ho1 lP1
          have ho2 : bits .or .u64 (B2 : Int) (B3 : Int) = ((B2 ||| B3 : Nat) : Int) := u64_or_nat B2 B3 lB2 lB3
          have lP2 : B2 ||| B3 < 18446744073709551616 := Nat.or_lt_two_pow (n := 64) lB2 lB3
          obtain ⟨P2, hP2⟩ : ∃ P2, B2 ||| B3 = P2 := ⟨_, rfl⟩
          rw [hP2] at ho2 lP2
          have ho3 : bits .or .u64 (P1 : Int) (P2 : Int) = ((P1 ||| P2 : Nat) : Int) := u64_or_nat P1 P2 lP1 lP2
          have lP3 : P1 ||| P2 < 18446744073709551616 := Nat.or_lt_two_pow (n := 64) lP1 lP2
          obtain ⟨P3, hP3⟩ : ∃ P3, P1 ||| P2 = P3 := ⟨_, rfl⟩
          rw [hP3] at ho3 lP3
          have hand3 : bits .and .u64 (P3 : Int) 9259542123273814144 = ((P3 &&& 9259542123273814144 : Nat) : Int) := u64_and_nat _ 9259542123273814144 lP3 (by omega)
          obtain ⟨Z3, hZ3⟩ : ∃ Z3, P3 &&& 9259542123273814144 = Z3 := ⟨_, rfl⟩
          rw [hZ3] at hand3
          have k3 : Z3 = 0 → Lib.Asc u 32 := fun h0' => by
           rw [← hZ3, ← hP3] at h0'
           obtain ⟨e01, e23⟩ := (Lib.or_mask _ _ _).1 h0'
           rw [← hP1] at e01
           rw [← hP2] at e23
           obtain ⟨e0, e1⟩ := (Lib.or_mask _ _ _).1 e01
           obtain ⟨e2, e3⟩ := (Lib.or_mask _ _ _).1 e23
           have s16 : Lib.Asc u 16 := Lib.asc_add u 8 8 (kB0.1 e0) (by rw [← hub]; exact kB1.1 e1)
           have s24 : Lib.Asc u 24 := Lib.asc_add u 16 8 s16 (by rw [← huc]; exact kB2.1 e2)
           exact Lib.asc_add u 24 8 s24 (by rw [← hud]; exact kB3.1 e3)
          have K3 := hid k3
          clear k3 hZ3 hP3 hP1 hP2 kB0 kB1 kB2 kB3 hub huc hud lP1 lP2 lP3 lB0 lB1 lB2 lB3
          go_upto_region 10 with (fail)
          by_cases hz3 : Z3 = 0
          ·have hz3b : ((Z3 : Int) == 0) = true := by simp [hz3]
           have a32 := K3.out hz3
           clear hz3
           obtain ⟨au2, u2, hu2, zu2, tbu2, slu2⟩ := Tu.out.sl 32 32 rfl (by (first | omega | (have y0 := Yt1.out; omega) | (have y0 := Yt1.out; have y1 := Yt2.out; omega) | (have y0 := Yt2b.out; omega) | (have y0 := Yt1.out; have y1 := Yt2.out; have y2 := Yt3.out; omega) | (have y0 := Yub.out; omega) | (have y0 := Yuc.out; omega) | (have y0 := Yud.out; omega) | (have y0 := Yu2.out; omega) | (have y0 := Yt1.out; have y1 := Yt2.out; have y2 := Yt3.out; have y3 := Yu2.out; omega)))
           have Tu2 := hid tbu2
           have Yu2 := hid zu2
           clear tbu2 zu2
           have HVu2 : Hid (Lib.validD u2.data.toList = ANS) := by show _ = _; rw [hu2, Lib.valid_skip u 32 a32]; exact HVu.out
           clear a32 hu2
           refine wp_region_each 21 [.eq (.slice (some ⟨bu, ou, none⟩) u.size u.size), .eq (.int .i64 (u.size : Int)), .eq (.bool true), .eq (.bool true), .eq (.slice (some ⟨bu, ou, none⟩) u.size u.size), .eq (.int .u64 (B0 : Nat)), .eq (.slice (some ⟨bu, ou, none⟩) u.size u.size), .eq (.slice (some ⟨bub, oub, none⟩) ub.size ub.size), .eq (.int .u64 (B1 : Nat)), .eq (.int .u64 (P1 : Nat)), .eq (.slice (some ⟨bu, ou, none⟩) u.size u.size), .eq (.slice (some ⟨buc, ouc, none⟩) uc.size uc.size), .eq (.int .u64 (B2 : Nat)), .eq (.slice (some ⟨bu, ou, none⟩) u.size u.size), .eq (.slice (some ⟨bud, oud, none⟩) ud.size ud.size), .eq (.int .u64 (B3 : Nat)), .eq (.int .u64 (P2 : Nat)), .eq (.int .u64 (P3 : Nat)), .eq (.int .u64 (Z3 : Nat)), .eq (.bool true), .eq (.bool true)] (by kernel_rfl) (by kernel_rfl) (by kernel_rfl) (by kernel_rfl) ?_ ?_
           ·all_goals
             refine each_5 ?_ ?_ ?_ ?_ ?_ (each_5 ?_ ?_ ?_ ?_ ?_ (each_5 ?_ ?_ ?_ ?_ ?_ (each_5 ?_ ?_ ?_ ?_ ?_ (each_c ?_ (each_n)))))
             ·intro w1 hg Ar seen
              have s0 := seen.sl 0 (.slice (some ⟨bu, ou, none⟩) u.size u.size)
              refine does_plain rfl fun K Q' hK => ?_
              go_simp; exact hK _ _ (Grow.refl _) rfl
             ·intro w1 hg Ar seen
              have e0 := seen.de 0 49
              refine does_plain rfl fun K Q' hK => ?_
              go_simp; exact hK _ _ (Grow.refl _) rfl
             ·intro w1 hg Ar seen
              have e1 := seen.de 1 50
              refine does_plain rfl fun K Q' hK => ?_
              go_simp; exact hK _ _ (Grow.refl _) rfl
             ·intro w1 hg Ar seen
              have e2 := seen.de 2 51
              refine does_plain rfl fun K Q' hK => ?_
              go_simp; exact hK _ _ (Grow.refl _) rfl
             ·intro w1 hg Ar seen
              have e3 := seen.de 3 52
              have s0 := seen.sl 0 (.slice (some ⟨bu, ou, none⟩) u.size u.size)
              refine does_on rfl (by kernel_rfl) e3 fun K Q' hK => ?_
              clear e3
              go_simp; exact hK _ _ (Grow.refl _) rfl
             ·intro w1 hg Ar seen
              have e4 := seen.de 4 53
              have e3 := seen.de 3 52
              refine does_on rfl (by kernel_rfl) e3 fun K Q' hK => ?_
              clear e3
              go_simp
              refine (WB0.out _ hg).mono ?_
              rintro e u ⟨rfl, hb⟩
              exact hK _ _ hb rfl
             ·intro w1 hg Ar seen
              have e3 := seen.de 3 52
              have s0 := seen.sl 0 (.slice (some ⟨bu, ou, none⟩) u.size u.size)
              refine does_on rfl (by kernel_rfl) e3 fun K Q' hK => ?_
              clear e3
              go_simp; exact hK _ _ (Grow.refl _) rfl
             ·intro w1 hg Ar seen
              have e6 := seen.de 6 55
              have e3 := seen.de 3 52
              refine does_on rfl (by kernel_rfl) e3 fun K Q' hK => ?_
              clear e3
              have hs := slub
              go_simp; exact hK _ _ (Grow.refl _) rfl
             ·intro w1 hg Ar seen
              have e7 := seen.de 7 56
              have e3 := seen.de 3 52
              refine does_on rfl (by kernel_rfl) e3 fun K Q' hK => ?_
              clear e3
              go_simp
              refine (WB1.out _ hg).mono ?_
              rintro e u ⟨rfl, hb⟩
              exact hK _ _ hb rfl
             ·intro w1 hg Ar seen
              have e5 := seen.de 5 54
              have e8 := seen.de 8 57
              have e3 := seen.de 3 52
              refine does_on rfl (by kernel_rfl) e3 fun K Q' hK => ?_
              clear e3
              go_simp; exact hK _ _ (Grow.refl _) rfl
             ·intro w1 hg Ar seen
              have e3 := seen.de 3 52
              have s0 := seen.sl 0 (.slice (some ⟨bu, ou, none⟩) u.size u.size)
              refine does_on rfl (by kernel_rfl) e3 fun K Q' hK => ?_
              clear e3
              go_simp; exact hK _ _ (Grow.refl _) rfl
             ·intro w1 hg Ar seen
              have e10 := seen.de 10 59
              have e3 := seen.de 3 52
              refine does_on rfl (by kernel_rfl) e3 fun K Q' hK => ?_
              clear e3
              have hs := sluc
              go_simp; exact hK _ _ (Grow.refl _) rfl
             ·intro w1 hg Ar seen
              have e11 := seen.de 11 60
              have e3 := seen.de 3 52
              refine does_on rfl (by kernel_rfl) e3 fun K Q' hK => ?_
              clear e3
              go_simp
              refine (WB2.out _ hg).mono ?_
              rintro e u ⟨rfl, hb⟩
              exact hK _ _ hb rfl
             ·intro w1 hg Ar seen
              have e3 := seen.de 3 52
              have s0 := seen.sl 0 (.slice (some ⟨bu, ou, none⟩) u.size u.size)
              refine does_on rfl (by kernel_rfl) e3 fun K Q' hK => ?_
              clear e3
              go_simp; exact hK _ _ (Grow.refl _) rfl
             ·intro w1 hg Ar seen
              have e13 := seen.de 13 62
              have e3 := seen.de 3 52
              refine does_on rfl (by kernel_rfl) e3 fun K Q' hK => ?_
              clear e3
              have hs := slud
              go_simp; exact hK _ _ (Grow.refl _) rfl
             ·intro w1 hg Ar seen
              have e14 := seen.de 14 63
              have e3 := seen.de 3 52
              refine does_on rfl (by kernel_rfl) e3 fun K Q' hK => ?_
              clear e3
              go_simp
              refine (WB3.out _ hg).mono ?_
              rintro e u ⟨rfl, hb⟩
              exact hK _ _ hb rfl
             ·intro w1 hg Ar seen
              have e12 := seen.de 12 61
              have e15 := seen.de 15 64
              have e3 := seen.de 3 52
              refine does_on rfl (by kernel_rfl) e3 fun K Q' hK => ?_
              clear e3
              go_simp; exact hK _ _ (Grow.refl _) rfl
             ·intro w1 hg Ar seen
              have e9 := seen.de 9 58
              have e16 := seen.de 16 65
              have e3 := seen.de 3 52
              refine does_on rfl (by kernel_rfl) e3 fun K Q' hK => ?_
              clear e3
              go_simp; exact hK _ _ (Grow.refl _) rfl
             ·intro w1 hg Ar seen
              have e17 := seen.de 17 66
              have e3 := seen.de 3 52
              refine does_on rfl (by kernel_rfl) e3 fun K Q' hK => ?_
              clear e3
              go_simp; exact hK _ _ (Grow.refl _) rfl
             ·intro w1 hg Ar seen
              have e18 := seen.de 18 67
              have e3 := seen.de 3 52
              refine does_on rfl (by kernel_rfl) e3 fun K Q' hK => ?_
              clear e3
              go_simp; exact hK _ _ (Grow.refl _) rfl
             ·intro w1 hg Ar seen
              have e3 := seen.de 3 52
              have e19 := seen.de 19 68
              refine does_plain rfl fun K Q' hK => ?_
              go_simp; exact hK _ _ (Grow.refl _) rfl
           intro w1 hg
           refine upon_w' (js := [0, 1, 2, 3, 4, 5, 6, 7, 8, 9, 10, 11, 12, 13, 14, 15, 16, 17, 18, 19, 20]) (by rfl) ?_
           refine upon_e (some 49) (upon_e (some 50) (upon_e (some 51) (upon_e (some 52) (upon_e (some 53) (upon_e (some 54) (upon_e (some 55) (upon_e (some 56) (upon_e (some 57) (upon_e (some 58) (upon_e (some 59) (upon_e (some 60) (upon_e (some 61) (upon_e (some 62) (upon_e (some 63) (upon_e (some 64) (upon_e (some 65) (upon_e (some 66) (upon_e (some 67) (upon_e (some 68) (upon_e (some 69) (upon_n ?_)))))))))))))))))))))
           go_simp
           have HB' := hid (HB.out.trans (Below.mono hg HB.out.size))
           clear HB
           have HB := HB'
           clear HB'
           have Tu2' := hid (Tu2.out.below hg)
           clear Tu2 hg
           have Tu2 := Tu2'
           clear Tu2'
           go_simp
           go_wp2_with fail
           have HR : VSt ANS w _ _ ∧ lenOf (.slice au2 u2.size u2.size) ≤ t3.size := ⟨⟨⟨_, u2, rfl, Tu2.out, HVu2.out, (by (first | omega | (have y0 := Yt1.out; omega) | (have y0 := Yt1.out; have y1 := Yt2.out; omega) | (have y0 := Yt2b.out; omega) | (have y0 := Yt1.out; have y1 := Yt2.out; have y2 := Yt3.out; omega) | (have y0 := Yub.out; omega) | (have y0 := Yuc.out; omega) | (have y0 := Yud.out; omega) | (have y0 := Yu2.out; omega) | (have y0 := Yt1.out; have y1 := Yt2.out; have y2 := Yt3.out; have y3 := Yu2.out; omega))), HB.out⟩⟩, by show u2.size ≤ t3.size; (first | omega | (have y0 := Yt1.out; omega) | (have y0 := Yt1.out; have y1 := Yt2.out; omega) | (have y0 := Yt2b.out; omega) | (have y0 := Yt1.out; have y1 := Yt2.out; have y2 := Yt3.out; omega) | (have y0 := Yub.out; omega) | (have y0 := Yuc.out; omega) | (have y0 := Yud.out; omega) | (have y0 := Yu2.out; omega) | (have y0 := Yt1.out; have y1 := Yt2.out; have y2 := Yt3.out; have y3 := Yu2.out; omega))⟩
           go_roundw
           case rel => first | exact HR | ((repeat apply Exists.intro); exact HR) | ((repeat apply Exists.intro); exact ⟨HR, rfl⟩)
           case measure => (simp [lenOf] <;> (first | omega | (have y0 := Yt1.out; omega) | (have y0 := Yt1.out; have y1 := Yt2.out; omega) | (have y0 := Yt2b.out; omega) | (have y0 := Yt1.out; have y1 := Yt2.out; have y2 := Yt3.out; omega) | (have y0 := Yub.out; omega) | (have y0 := Yuc.out; omega) | (have y0 := Yud.out; omega) | (have y0 := Yu2.out; omega) | (have y0 := Yt1.out; have y1 := Yt2.out; have y2 := Yt3.out; have y3 := Yu2.out; omega)))
          ·have hz3b : ((Z3 : Int) == 0) = false := by simp; omega
           refine wp_region_each 21 [.eq (.slice (some ⟨bu, ou, none⟩) u.size u.size), .eq (.int .i64 (u.size : Int)), .eq (.bool true), .eq (.bool true), .eq (.slice (some ⟨bu, ou, none⟩) u.size u.size), .eq (.int .u64 (B0 : Nat)), .eq (.slice (some ⟨bu, ou, none⟩) u.size u.size), .eq (.slice (some ⟨bub, oub, none⟩) ub.size ub.size), .eq (.int .u64 (B1 : Nat)), .eq (.int .u64 (P1 : Nat)), .eq (.slice (some ⟨bu, ou, none⟩) u.size u.size), .eq (.slice (some ⟨buc, ouc, none⟩) uc.size uc.size), .eq (.int .u64 (B2 : Nat)), .eq (.slice (some ⟨bu, ou, none⟩) u.size u.size), .eq (.slice (some ⟨bud, oud, none⟩) ud.size ud.size), .eq (.int .u64 (B3 : Nat)), .eq (.int .u64 (P2 : Nat)), .eq (.int .u64 (P3 : Nat)), .eq (.int .u64 (Z3 : Nat)), .eq (.bool false), .eq (.bool false)] (by kernel_rfl) (by kernel_rfl) (by kernel_rfl) (by kernel_rfl) ?_ ?_
           ·all_goals
             refine each_5 ?_ ?_ ?_ ?_ ?_ (each_5 ?_ ?_ ?_ ?_ ?_ (each_5 ?_ ?_ ?_ ?_ ?_ (each_5 ?_ ?_ ?_ ?_ ?_ (each_c ?_ (each_n)))))
             ·intro w1 hg Ar seen
              have s0 := seen.sl 0 (.slice (some ⟨bu, ou, none⟩) u.size u.size)
              refine does_plain rfl fun K Q' hK => ?_
              go_simp; exact hK _ _ (Grow.refl _) rfl
             ·intro w1 hg Ar seen
              have e0 := seen.de 0 49
              refine does_plain rfl fun K Q' hK => ?_
              go_simp; exact hK _ _ (Grow.refl _) rfl
             ·intro w1 hg Ar seen
              have e1 := seen.de 1 50
              refine does_plain rfl fun K Q' hK => ?_
              go_simp; exact hK _ _ (Grow.refl _) rfl
             ·intro w1 hg Ar seen
              have e2 := seen.de 2 51
              refine does_plain rfl fun K Q' hK => ?_
              go_simp; exact hK _ _ (Grow.refl _) rfl
             ·intro w1 hg Ar seen
              have e3 := seen.de 3 52
              have s0 := seen.sl 0 (.slice (some ⟨bu, ou, none⟩) u.size u.size)
              refine does_on rfl (by kernel_rfl) e3 fun K Q' hK => ?_
              clear e3
              go_simp; exact hK _ _ (Grow.refl _) rfl
             ·intro w1 hg Ar seen
              have e4 := seen.de 4 53
              have e3 := seen.de 3 52
              refine does_on rfl (by kernel_rfl) e3 fun K Q' hK => ?_
              clear e3
              go_simp
              refine (WB0.out _ hg).mono ?_
              rintro e u ⟨rfl, hb⟩
              exact hK _ _ hb rfl
             ·intro w1 hg Ar seen
              have e3 := seen.de 3 52
              have s0 := seen.sl 0 (.slice (some ⟨bu, ou, none⟩) u.size u.size)
              refine does_on rfl (by kernel_rfl) e3 fun K Q' hK => ?_
              clear e3
              go_simp; exact hK _ _ (Grow.refl _) rfl
             ·intro w1 hg Ar seen
              have e6 := seen.de 6 55
              have e3 := seen.de 3 52
              refine does_on rfl (by kernel_rfl) e3 fun K Q' hK => ?_
              clear e3
              have hs := slub
              go_simp; exact hK _ _ (Grow.refl _) rfl
             ·intro w1 hg Ar seen
              have e7 := seen.de 7 56
              have e3 := seen.de 3 52
              refine does_on rfl (by kernel_rfl) e3 fun K Q' hK => ?_
              clear e3
              go_simp
              refine (WB1.out _ hg).mono ?_
              rintro e u ⟨rfl, hb⟩
              exact hK _ _ hb rfl
             ·intro w1 hg Ar seen
              have e5 := seen.de 5 54
              have e8 := seen.de 8 57
              have e3 := seen.de 3 52
              refine does_on rfl (by kernel_rfl) e3 fun K Q' hK => ?_
              clear e3
              go_simp; exact hK _ _ (Grow.refl _) rfl
             ·intro w1 hg Ar seen
              have e3 := seen.de 3 52
              have s0 := seen.sl 0 (.slice (some ⟨bu, ou, none⟩) u.size u.size)
              refine does_on rfl (by kernel_rfl) e3 fun K Q' hK => ?_
              clear e3
              go_simp; exact hK _ _ (Grow.refl _) rfl
             ·intro w1 hg Ar seen
              have e10 := seen.de 10 59
              have e3 := seen.de 3 52
              refine does_on rfl (by kernel_rfl) e3 fun K Q' hK => ?_
              clear e3
              have hs := sluc
              go_simp; exact hK _ _ (Grow.refl _) rfl
             ·intro w1 hg Ar seen
              have e11 := seen.de 11 60
              have e3 := seen.de 3 52
              refine does_on rfl (by kernel_rfl) e3 fun K Q' hK => ?_
              clear e3
              go_simp
              refine (WB2.out _ hg).mono ?_
              rintro e u ⟨rfl, hb⟩
              exact hK _ _ hb rfl
             ·intro w1 hg Ar seen
              have e3 := seen.de 3 52
              have s0 := seen.sl 0 (.slice (some ⟨bu, ou, none⟩) u.size u.size)
              refine does_on rfl (by kernel_rfl) e3 fun K Q' hK => ?_
              clear e3
              go_simp; exact hK _ _ (Grow.refl _) rfl
             ·intro w1 hg Ar seen
              have e13 := seen.de 13 62
              have e3 := seen.de 3 52
              refine does_on rfl (by kernel_rfl) e3 fun K Q' hK => ?_
              clear e3
              have hs := slud
              go_simp; exact hK _ _ (Grow.refl _) rfl
             ·intro w1 hg Ar seen
              have e14 := seen.de 14 63
              have e3 := seen.de 3 52
              refine does_on rfl (by kernel_rfl) e3 fun K Q' hK => ?_
              clear e3
              go_simp
              refine (WB3.out _ hg).mono ?_
              rintro e u ⟨rfl, hb⟩
              exact hK _ _ hb rfl
             ·intro w1 hg Ar seen
              have e12 := seen.de 12 61
              have e15 := seen.de 15 64
              have e3 := seen.de 3 52
              refine does_on rfl (by kernel_rfl) e3 fun K Q' hK => ?_
              clear e3
              go_simp; exact hK _ _ (Grow.refl _) rfl
             ·intro w1 hg Ar seen
              have e9 := seen.de 9 58
              have e16 := seen.de 16 65
              have e3 := seen.de 3 52
              refine does_on rfl (by kernel_rfl) e3 fun K Q' hK => ?_
              clear e3
              go_simp; exact hK _ _ (Grow.refl _) rfl
             ·intro w1 hg Ar seen
              have e17 := seen.de 17 66
              have e3 := seen.de 3 52
              refine does_on rfl (by kernel_rfl) e3 fun K Q' hK => ?_
              clear e3
              go_simp; exact hK _ _ (Grow.refl _) rfl
             ·intro w1 hg Ar seen
              have e18 := seen.de 18 67
              have e3 := seen.de 3 52
              refine does_on rfl (by kernel_rfl) e3 fun K Q' hK => ?_
              clear e3
              go_simp; exact hK _ _ (Grow.refl _) rfl
             ·intro w1 hg Ar seen
              have e3 := seen.de 3 52
              have e19 := seen.de 19 68
              refine does_plain rfl fun K Q' hK => ?_
              go_simp; exact hK _ _ (Grow.refl _) rfl
           intro w1 hg
           refine upon_w' (js := [0, 1, 2, 3, 4, 5, 6, 7, 8, 9, 10, 11, 12, 13, 14, 15, 16, 17, 18, 19, 20]) (by rfl) ?_
           refine upon_e (some 49) (upon_e (some 50) (upon_e (some 51) (upon_e (some 52) (upon_e (some 53) (upon_e (some 54) (upon_e (some 55) (upon_e (some 56) (upon_e (some 57) (upon_e (some 58) (upon_e (some 59) (upon_e (some 60) (upon_e (some 61) (upon_e (some 62) (upon_e (some 63) (upon_e (some 64) (upon_e (some 65) (upon_e (some 66) (upon_e (some 67) (upon_e (some 68) (upon_e (some 69) (upon_n ?_)))))))))))))))))))))
           go_simp
           have HB' := hid (HB.out.trans (Below.mono hg HB.out.size))
           clear HB
           have HB := HB'
           clear HB'
           have Tu' := hid (Tu.out.below hg)
           clear Tu hg
           have Tu := Tu'
           clear Tu'
           go_simp
           go_wp2_with fail
           have HR : VSt ANS w _ _ := ⟨⟨_, u, rfl, Tu.out, HVu.out, (by (first | omega | (have y0 := Yt1.out; omega) | (have y0 := Yt1.out; have y1 := Yt2.out; omega) | (have y0 := Yt2b.out; omega) | (have y0 := Yt1.out; have y1 := Yt2.out; have y2 := Yt3.out; omega) | (have y0 := Yub.out; omega) | (have y0 := Yuc.out; omega) | (have y0 := Yud.out; omega) | (have y0 := Yu2.out; omega) | (have y0 := Yt1.out; have y1 := Yt2.out; have y2 := Yt3.out; have y3 := Yu2.out; omega))), HB.out⟩⟩
           go_roundw
           case rel => first | exact HR | ((repeat apply Exists.intro); exact HR) | ((repeat apply Exists.intro); exact ⟨HR, rfl⟩)
           case measure => (simp [lenOf] <;> (first | omega | (have y0 := Yt1.out; omega) | (have y0 := Yt1.out; have y1 := Yt2.out; omega) | (have y0 := Yt2b.out; omega) | (have y0 := Yt1.out; have y1 := Yt2.out; have y2 := Yt3.out; omega) | (have y0 := Yub.out; omega) | (have y0 := Yuc.out; omega) | (have y0 := Yud.out; omega) | (have y0 := Yu2.out; omega) | (have y0 := Yt1.out; have y1 := Yt2.out; have y2 := Yt3.out; have y3 := Yu2.out; omega)))
         ·have c32z : ¬ ((32 : Int) < (u.size : Int)) := by omega
          have c32b : decide ((32 : Int) < (u.size : Int)) = false := decide_eq_false c32z
          go_upto_region 10 with (fail)
          refine wp_region_each 21 [.eq (.slice au u.size u.size), .eq (.int .i64 (u.size : Int)), .eq (.bool false), .eq (.bool false), .eq undef, .eq undef, .eq undef, .eq undef, .eq undef, .eq undef, .eq undef, .eq undef, .eq undef, .eq undef, .eq undef, .eq undef, .eq undef, .eq undef, .eq undef, .eq undef, .eq (.bool false)] (by kernel_rfl) (by kernel_rfl) (by kernel_rfl) (by kernel_rfl) ?_ ?_
          ·all_goals
            refine each_5 ?_ ?_ ?_ ?_ ?_ (each_5 ?_ ?_ ?_ ?_ ?_ (each_5 ?_ ?_ ?_ ?_ ?_ (each_5 ?_ ?_ ?_ ?_ ?_ (each_c ?_ (each_n)))))
            ·intro w1 hg Ar seen
             have s0 := seen.sl 0 (.slice au u.size u.size)
             refine does_plain rfl fun K Q' hK => ?_
             go_simp; exact hK _ _ (Grow.refl _) rfl
            ·intro w1 hg Ar seen
             have e0 := seen.de 0 49
             refine does_plain rfl fun K Q' hK => ?_
             go_simp; exact hK _ _ (Grow.refl _) rfl
            ·intro w1 hg Ar seen
             have e1 := seen.de 1 50
             refine does_plain rfl fun K Q' hK => ?_
             go_simp; exact hK _ _ (Grow.refl _) rfl
            ·intro w1 hg Ar seen
             have e2 := seen.de 2 51
             refine does_plain rfl fun K Q' hK => ?_
             go_simp; exact hK _ _ (Grow.refl _) rfl
            ·intro w1 hg Ar seen
             have e3 := seen.de 3 52
             exact does_off rfl (by kernel_rfl) e3 ne_ft (Grow.refl _) rfl
            ·intro w1 hg Ar seen
             have e3 := seen.de 3 52
             exact does_off rfl (by kernel_rfl) e3 ne_ft (Grow.refl _) rfl
            ·intro w1 hg Ar seen
             have e3 := seen.de 3 52
             exact does_off rfl (by kernel_rfl) e3 ne_ft (Grow.refl _) rfl
            ·intro w1 hg Ar seen
             have e3 := seen.de 3 52
             exact does_off rfl (by kernel_rfl) e3 ne_ft (Grow.refl _) rfl
            ·intro w1 hg Ar seen
             have e3 := seen.de 3 52
             exact does_off rfl (by kernel_rfl) e3 ne_ft (Grow.refl _) rfl
            ·intro w1 hg Ar seen
             have e3 := seen.de 3 52
             exact does_off rfl (by kernel_rfl) e3 ne_ft (Grow.refl _) rfl
            ·intro w1 hg Ar seen
             have e3 := seen.de 3 52
             exact does_off rfl (by kernel_rfl) e3 ne_ft (Grow.refl _) rfl
            ·intro w1 hg Ar seen
             have e3 := seen.de 3 52
             exact does_off rfl (by kernel_rfl) e3 ne_ft (Grow.refl _) rfl
            ·intro w1 hg Ar seen
             have e3 := seen.de 3 52
             exact does_off rfl (by kernel_rfl) e3 ne_ft (Grow.refl _) rfl
            ·intro w1 hg Ar seen
             have e3 := seen.de 3 52
             exact does_off rfl (by kernel_rfl) e3 ne_ft (Grow.refl _) rfl
            ·intro w1 hg Ar seen
             have e3 := seen.de 3 52
             exact does_off rfl (by kernel_rfl) e3 ne_ft (Grow.refl _) rfl
            ·intro w1 hg Ar seen
             have e3 := seen.de 3 52
             exact does_off rfl (by kernel_rfl) e3 ne_ft (Grow.refl _) rfl
            ·intro w1 hg Ar seen
             have e3 := seen.de 3 52
             exact does_off rfl (by kernel_rfl) e3 ne_ft (Grow.refl _) rfl
            ·intro w1 hg Ar seen
             have e3 := seen.de 3 52
             exact does_off rfl (by kernel_rfl) e3 ne_ft (Grow.refl _) rfl
            ·intro w1 hg Ar seen
             have e3 := seen.de 3 52
             exact does_off rfl (by kernel_rfl) e3 ne_ft (Grow.refl _) rfl
            ·intro w1 hg Ar seen
             have e3 := seen.de 3 52
             exact does_off rfl (by kernel_rfl) e3 ne_ft (Grow.refl _) rfl
            ·intro w1 hg Ar seen
             have e3 := seen.de 3 52
             have e19 := seen.de 19 68
             refine does_plain rfl fun K Q' hK => ?_
             go_simp; exact hK _ _ (Grow.refl _) rfl
          intro w1 hg
          refine upon_w' (js := [0, 1, 2, 3, 4, 5, 6, 7, 8, 9, 10, 11, 12, 13, 14, 15, 16, 17, 18, 19, 20]) (by rfl) ?_
          refine upon_e (some 49) (upon_e (some 50) (upon_e (some 51) (upon_e (some 52) (upon_e (some 53) (upon_e (some 54) (upon_e (some 55) (upon_e (some 56) (upon_e (some 57) (upon_e (some 58) (upon_e (some 59) (upon_e (some 60) (upon_e (some 61) (upon_e (some 62) (upon_e (some 63) (upon_e (some 64) (upon_e (some 65) (upon_e (some 66) (upon_e (some 67) (upon_e (some 68) (upon_e (some 69) (upon_n ?_)))))))))))))))))))))
          go_simp
          have HB' := hid (HB.out.trans (Below.mono hg HB.out.size))
          clear HB
          have HB := HB'
          clear HB'
          have Tu' := hid (Tu.out.below hg)
          clear Tu hg
          have Tu := Tu'
          clear Tu'
          go_simp
          go_wp2_with fail
          have HR : VSt ANS w _ _ := ⟨⟨_, u, rfl, Tu.out, HVu.out, (by (first | omega | (have y0 := Yt1.out; omega) | (have y0 := Yt1.out; have y1 := Yt2.out; omega) | (have y0 := Yt2b.out; omega) | (have y0 := Yt1.out; have y1 := Yt2.out; have y2 := Yt3.out; omega) | (have y0 := Yub.out; omega) | (have y0 := Yuc.out; omega) | (have y0 := Yud.out; omega) | (have y0 := Yu2.out; omega) | (have y0 := Yt1.out; have y1 := Yt2.out; have y2 := Yt3.out; have y3 := Yu2.out; omega))), HB.out⟩⟩
          go_roundw
          case rel => first | exact HR | ((repeat apply Exists.intro); exact HR) | ((repeat apply Exists.intro); exact ⟨HR, rfl⟩)
          case measure => (simp [lenOf] <;> (first | omega | (have y0 := Yt1.out; omega) | (have y0 := Yt1.out; have y1 := Yt2.out; omega) | (have y0 := Yt2b.out; omega) | (have y0 := Yt1.out; have y1 := Yt2.out; have y2 := Yt3.out; omega) | (have y0 := Yub.out; omega) | (have y0 := Yuc.out; omega) | (have y0 := Yud.out; omega) | (have y0 := Yu2.out; omega) | (have y0 := Yt1.out; have y1 := Yt2.out; have y2 := Yt3.out; have y3 := Yu2.out; omega)))
       ·have hz2b : ((Z2 : Int) == 0) = false := by simp; omega
        refine wp_region_each 13 [.eq (.slice (some ⟨bt2, ot2, none⟩) t2.size t2.size), .eq (.int .i64 (t2.size : Int)), .eq (.bool true), .eq (.bool true), .eq (.slice (some ⟨bt2, ot2, none⟩) t2.size t2.size), .eq (.int .u64 (A2 : Nat)), .eq (.slice (some ⟨bt2, ot2, none⟩) t2.size t2.size), .eq (.slice (some ⟨bt2b, ot2b, none⟩) t2b.size t2b.size), .eq (.int .u64 (A3 : Nat)), .eq (.int .u64 (O2 : Nat)), .eq (.int .u64 (Z2 : Nat)), .eq (.bool false), .eq (.bool false)] (by kernel_rfl) (by kernel_rfl) (by kernel_rfl) (by kernel_rfl) ?_ ?_
        ·all_goals
          refine each_5 ?_ ?_ ?_ ?_ ?_ (each_5 ?_ ?_ ?_ ?_ ?_ (each_c ?_ (each_c ?_ (each_c ?_ (each_n)))))
          ·intro w1 hg Ar seen
           have s0 := seen.sl 0 (.slice (some ⟨bt2, ot2, none⟩) t2.size t2.size)
           refine does_plain rfl fun K Q' hK => ?_
           go_simp; exact hK _ _ (Grow.refl _) rfl
          ·intro w1 hg Ar seen
           have e0 := seen.de 0 34
           refine does_plain rfl fun K Q' hK => ?_
           go_simp; exact hK _ _ (Grow.refl _) rfl
          ·intro w1 hg Ar seen
           have e1 := seen.de 1 35
           refine does_plain rfl fun K Q' hK => ?_
           go_simp; exact hK _ _ (Grow.refl _) rfl
          ·intro w1 hg Ar seen
           have e2 := seen.de 2 36
           refine does_plain rfl fun K Q' hK => ?_
           go_simp; exact hK _ _ (Grow.refl _) rfl
          ·intro w1 hg Ar seen
           have e3 := seen.de 3 37
           have s0 := seen.sl 0 (.slice (some ⟨bt2, ot2, none⟩) t2.size t2.size)
           refine does_on rfl (by kernel_rfl) e3 fun K Q' hK => ?_
           clear e3
           go_simp; exact hK _ _ (Grow.refl _) rfl
          ·intro w1 hg Ar seen
           have e4 := seen.de 4 38
           have e3 := seen.de 3 37
           refine does_on rfl (by kernel_rfl) e3 fun K Q' hK => ?_
           clear e3
           go_simp
           refine (WA2.out _ hg).mono ?_
           rintro e u ⟨rfl, hb⟩
           exact hK _ _ hb rfl
          ·intro w1 hg Ar seen
           have e3 := seen.de 3 37
           have s0 := seen.sl 0 (.slice (some ⟨bt2, ot2, none⟩) t2.size t2.size)
           refine does_on rfl (by kernel_rfl) e3 fun K Q' hK => ?_
           clear e3
           go_simp; exact hK _ _ (Grow.refl _) rfl
          ·intro w1 hg Ar seen
           have e6 := seen.de 6 40
           have e3 := seen.de 3 37
           refine does_on rfl (by kernel_rfl) e3 fun K Q' hK => ?_
           clear e3
           have hs := slt2b
           go_simp; exact hK _ _ (Grow.refl _) rfl
          ·intro w1 hg Ar seen
           have e7 := seen.de 7 41
           have e3 := seen.de 3 37
           refine does_on rfl (by kernel_rfl) e3 fun K Q' hK => ?_
           clear e3
           go_simp
           refine (WA3.out _ hg).mono ?_
           rintro e u ⟨rfl, hb⟩
           exact hK _ _ hb rfl
          ·intro w1 hg Ar seen
           have e5 := seen.de 5 39
           have e8 := seen.de 8 42
           have e3 := seen.de 3 37
           refine does_on rfl (by kernel_rfl) e3 fun K Q' hK => ?_
           clear e3
           go_simp; exact hK _ _ (Grow.refl _) rfl
          ·intro w1 hg Ar seen
           have e9 := seen.de 9 43
           have e3 := seen.de 3 37
           refine does_on rfl (by kernel_rfl) e3 fun K Q' hK => ?_
           clear e3
           go_simp; exact hK _ _ (Grow.refl _) rfl
          ·intro w1 hg Ar seen
           have e10 := seen.de 10 44
           have e3 := seen.de 3 37
           refine does_on rfl (by kernel_rfl) e3 fun K Q' hK => ?_
           clear e3
           go_simp; exact hK _ _ (Grow.refl _) rfl
          ·intro w1 hg Ar seen
           have e3 := seen.de 3 37
           have e11 := seen.de 11 45
           refine does_plain rfl fun K Q' hK => ?_
           go_simp; exact hK _ _ (Grow.refl _) rfl
        intro w1 hg
        refine upon_w' (js := [0, 1, 2, 3, 4, 5, 6, 7, 8, 9, 10, 11, 12]) (by rfl) ?_
        refine upon_e (some 34) (upon_e (some 35) (upon_e (some 36) (upon_e (some 37) (upon_e (some 38) (upon_e (some 39) (upon_e (some 40) (upon_e (some 41) (upon_e (some 42) (upon_e (some 43) (upon_e (some 44) (upon_e (some 45) (upon_e (some 46) (upon_n ?_)))))))))))))
        go_simp
        have HB' := hid (HB.out.trans (Below.mono hg HB.out.size))
        clear HB
        have HB := HB'
        clear HB'
        have Tt2' := hid (Tt2.out.below hg)
        clear Tt2 hg
        have Tt2 := Tt2'
        clear Tt2'
        go_simp
        go_wp2_with fail
        have HR : VSt ANS w _ _ := ⟨⟨_, t2, rfl, Tt2.out, HVt2.out, (by (first | omega | (have y0 := Yt1.out; omega) | (have y0 := Yt1.out; have y1 := Yt2.out; omega) | (have y0 := Yt2b.out; omega) | (have y0 := Yt1.out; have y1 := Yt2.out; have y2 := Yt3.out; omega) | (have y0 := Yub.out; omega) | (have y0 := Yuc.out; omega) | (have y0 := Yud.out; omega) | (have y0 := Yu2.out; omega) | (have y0 := Yt1.out; have y1 := Yt2.out; have y2 := Yt3.out; have y3 := Yu2.out; omega))), HB.out⟩⟩
        go_roundw
        case rel => first | exact HR | ((repeat apply Exists.intro); exact HR) | ((repeat apply Exists.intro); exact ⟨HR, rfl⟩)
        case measure => (simp [lenOf] <;> (first | omega | (have y0 := Yt1.out; omega) | (have y0 := Yt1.out; have y1 := Yt2.out; omega) | (have y0 := Yt2b.out; omega) | (have y0 := Yt1.out; have y1 := Yt2.out; have y2 := Yt3.out; omega) | (have y0 := Yub.out; omega) | (have y0 := Yuc.out; omega) | (have y0 := Yud.out; omega) | (have y0 := Yu2.out; omega) | (have y0 := Yt1.out; have y1 := Yt2.out; have y2 := Yt3.out; have y3 := Yu2.out; omega)))
      ·have c16z : ¬ ((16 : Int) < (t2.size : Int)) := by omega
       have c16b : decide ((16 : Int) < (t2.size : Int)) = false := decide_eq_false c16z
       refine wp_region_each 13 [.eq (.slice at2 t2.size t2.size), .eq (.int .i64 (t2.size : Int)), .eq (.bool false), .eq (.bool false), .eq undef, .eq undef, .eq undef, .eq undef, .eq undef, .eq undef, .eq undef, .eq undef, .eq (.bool false)] (by kernel_rfl) (by kernel_rfl) (by kernel_rfl) (by kernel_rfl) ?_ ?_
       ·all_goals
         refine each_5 ?_ ?_ ?_ ?_ ?_ (each_5 ?_ ?_ ?_ ?_ ?_ (each_c ?_ (each_c ?_ (each_c ?_ (each_n)))))
         ·intro w1 hg Ar seen
          have s0 := seen.sl 0 (.slice at2 t2.size t2.size)
          refine does_plain rfl fun K Q' hK => ?_
          go_simp; exact hK _ _ (Grow.refl _) rfl
         ·intro w1 hg Ar seen
          have e0 := seen.de 0 34
          refine does_plain rfl fun K Q' hK => ?_
          go_simp; exact hK _ _ (Grow.refl _) rfl
         ·intro w1 hg Ar seen
          have e1 := seen.de 1 35
          refine does_plain rfl fun K Q' hK => ?_
          go_simp; exact hK _ _ (Grow.refl _) rfl
         ·intro w1 hg Ar seen
          have e2 := seen.de 2 36
          refine does_plain rfl fun K Q' hK => ?_
          go_simp; exact hK _ _ (Grow.refl _) rfl
         ·intro w1 hg Ar seen
          have e3 := seen.de 3 37
          exact does_off rfl (by kernel_rfl) e3 ne_ft (Grow.refl _) rfl
         ·intro w1 hg Ar seen
          have e3 := seen.de 3 37
          exact does_off rfl (by kernel_rfl) e3 ne_ft (Grow.refl _) rfl
         ·intro w1 hg Ar seen
          have e3 := seen.de 3 37
          exact does_off rfl (by kernel_rfl) e3 ne_ft (Grow.refl _) rfl
         ·intro w1 hg Ar seen
          have e3 := seen.de 3 37
          exact does_off rfl (by kernel_rfl) e3 ne_ft (Grow.refl _) rfl
         ·intro w1 hg Ar seen
          have e3 := seen.de 3 37
          exact does_off rfl (by kernel_rfl) e3 ne_ft (Grow.refl _) rfl
         ·intro w1 hg Ar seen
          have e3 := seen.de 3 37
          exact does_off rfl (by kernel_rfl) e3 ne_ft (Grow.refl _) rfl
         ·intro w1 hg Ar seen
          have e3 := seen.de 3 37
          exact does_off rfl (by kernel_rfl) e3 ne_ft (Grow.refl _) rfl
         ·intro w1 hg Ar seen
          have e3 := seen.de 3 37
          exact does_off rfl (by kernel_rfl) e3 ne_ft (Grow.refl _) rfl
         ·intro w1 hg Ar seen
          have e3 := seen.de 3 37
          have e11 := seen.de 11 45
          refine does_plain rfl fun K Q' hK => ?_
          go_simp; exact hK _ _ (Grow.refl _) rfl
       intro w1 hg
       refine upon_w' (js := [0, 1, 2, 3, 4, 5, 6, 7, 8, 9, 10, 11, 12]) (by rfl) ?_
       refine upon_e (some 34) (upon_e (some 35) (upon_e (some 36) (upon_e (some 37) (upon_e (some 38) (upon_e (some 39) (upon_e (some 40) (upon_e (some 41) (upon_e (some 42) (upon_e (some 43) (upon_e (some 44) (upon_e (some 45) (upon_e (some 46) (upon_n ?_)))))))))))))
       go_simp
       have HB' := hid (HB.out.trans (Below.mono hg HB.out.size))
       clear HB
       have HB := HB'
       clear HB'
       have Tt2' := hid (Tt2.out.below hg)
       clear Tt2 hg
       have Tt2 := Tt2'
       clear Tt2'
       go_simp
       go_wp2_with fail
       have HR : VSt ANS w _ _ := ⟨⟨_, t2, rfl, Tt2.out, HVt2.out, (by (first | omega | (have y0 := Yt1.out; omega) | (have y0 := Yt1.out; have y1 := Yt2.out; omega) | (have y0 := Yt2b.out; omega) | (have y0 := Yt1.out; have y1 := Yt2.out; have y2 := Yt3.out; omega) | (have y0 := Yub.out; omega) | (have y0 := Yuc.out; omega) | (have y0 := Yud.out; omega) | (have y0 := Yu2.out; omega) | (have y0 := Yt1.out; have y1 := Yt2.out; have y2 := Yt3.out; have y3 := Yu2.out; omega))), HB.out⟩⟩
       go_roundw
       case rel => first | exact HR | ((repeat apply Exists.intro); exact HR) | ((repeat apply Exists.intro); exact ⟨HR, rfl⟩)
       case measure => (simp [lenOf] <;> (first | omega | (have y0 := Yt1.out; omega) | (have y0 := Yt1.out; have y1 := Yt2.out; omega) | (have y0 := Yt2b.out; omega) | (have y0 := Yt1.out; have y1 := Yt2.out; have y2 := Yt3.out; omega) | (have y0 := Yub.out; omega) | (have y0 := Yuc.out; omega) | (have y0 := Yud.out; omega) | (have y0 := Yu2.out; omega) | (have y0 := Yt1.out; have y1 := Yt2.out; have y2 := Yt3.out; have y3 := Yu2.out; omega)))
     ·have hz1b : ((Z1 : Int) == 0) = false := by simp; omega
      clear kA1 hZ1
      go_wp2_with fail
      refine (WA1.out _ (Below.refl _ _)).mono ?_
      rintro e W1 ⟨rfl, hb1⟩
      dsimp only
      have HB' := hid (HB.out.trans (Below.mono hb1 HB.out.size))
      have Tt1' := hid (Tt1.out.below hb1)
      clear HB Tt1 WA1 hb1
      have HB := HB'
      have Tt1 := Tt1'
      clear HB' Tt1'
      go_wp2_with fail
      have HR : VSt ANS w _ _ := ⟨⟨_, t1, rfl, Tt1.out, HVt1.out, (by (first | omega | (have y0 := Yt1.out; omega) | (have y0 := Yt1.out; have y1 := Yt2.out; omega) | (have y0 := Yt2b.out; omega) | (have y0 := Yt1.out; have y1 := Yt2.out; have y2 := Yt3.out; omega) | (have y0 := Yub.out; omega) | (have y0 := Yuc.out; omega) | (have y0 := Yud.out; omega) | (have y0 := Yu2.out; omega) | (have y0 := Yt1.out; have y1 := Yt2.out; have y2 := Yt3.out; have y3 := Yu2.out; omega))), HB.out⟩⟩
      go_roundw
      case rel => first | exact HR | ((repeat apply Exists.intro); exact HR) | ((repeat apply Exists.intro); exact ⟨HR, rfl⟩)
      case measure => (simp [lenOf] <;> (first | omega | (have y0 := Yt1.out; omega) | (have y0 := Yt1.out; have y1 := Yt2.out; omega) | (have y0 := Yt2b.out; omega) | (have y0 := Yt1.out; have y1 := Yt2.out; have y2 := Yt3.out; omega) | (have y0 := Yub.out; omega) | (have y0 := Yuc.out; omega) | (have y0 := Yud.out; omega) | (have y0 := Yu2.out; omega) | (have y0 := Yt1.out; have y1 := Yt2.out; have y2 := Yt3.out; have y3 := Yu2.out; omega)))
    ·have c8z : ¬ ((8 : Int) < (t1.size : Int)) := by omega
     go_wp2_with fail
     have HR : VSt ANS w _ _ := ⟨⟨_, t1, rfl, Tt1.out, HVt1.out, (by (first | omega | (have y0 := Yt1.out; omega) | (have y0 := Yt1.out; have y1 := Yt2.out; omega) | (have y0 := Yt2b.out; omega) | (have y0 := Yt1.out; have y1 := Yt2.out; have y2 := Yt3.out; omega) | (have y0 := Yub.out; omega) | (have y0 := Yuc.out; omega) | (have y0 := Yud.out; omega) | (have y0 := Yu2.out; omega) | (have y0 := Yt1.out; have y1 := Yt2.out; have y2 := Yt3.out; have y3 := Yu2.out; omega))), HB.out⟩⟩
     go_roundw
     case rel => first | exact HR | ((repeat apply Exists.intro); exact HR) | ((repeat apply Exists.intro); exact ⟨HR, rfl⟩)
     case measure => (simp [lenOf] <;> (first | omega | (have y0 := Yt1.out; omega) | (have y0 := Yt1.out; have y1 := Yt2.out; omega) | (have y0 := Yt2b.out; omega) | (have y0 := Yt1.out; have y1 := Yt2.out; have y2 := Yt3.out; omega) | (have y0 := Yub.out; omega) | (have y0 := Yuc.out; omega) | (have y0 := Yud.out; omega) | (have y0 := Yu2.out; omega) | (have y0 := Yt1.out; have y1 := Yt2.out; have y2 := Yt3.out; have y3 := Yu2.out; omega)))
   ·have hge : 128 ≤ x0.toNat := by omega
    have hascz : ¬ ((x0.toNat : Int) < 128) := by omega
    obtain ⟨x1, hx1⟩ : ∃ x1, t.get! 1 = x1 := ⟨_, rfl⟩
    obtain ⟨x2, hx2⟩ : ∃ x2, t.get! 2 = x2 := ⟨_, rfl⟩
    obtain ⟨x3, hx3⟩ : ∃ x3, t.get! 3 = x3 := ⟨_, rfl⟩
    have l1 := x1.toNat_lt; have l2 := x2.toNat_lt; have l3 := x3.toNat_lt
    have hne : t.data.toList ≠ [] := fun h => by rw [Lib.size_eq, h] at h0; simp at h0
    have hlead := Lib.validD_lead t.data.toList hne (by rw [Lib.getD_get!', hx0]; exact hge)
    rw [Lib.getD_get!', Lib.getD_get!', Lib.getD_get!', Lib.getD_get!', hx0, hx1, hx2, hx3, ← Lib.size_eq, HV.out] at hlead
    have hc0 : wr.cell? ⟨0, x0.toNat, none⟩ = some (.int .u8 (Lib.firstT x0.toNat : Int)) := HTr.out.1 x0.toNat hx0lt
    have hXlt : Lib.firstT x0.toNat < 256 := by rcases Lib.firstT_cases x0.toNat with h | h | h | h | h | h | h | h | h <;> omega
    obtain ⟨X, hX⟩ : ∃ X, Lib.firstT x0.toNat = X := ⟨_, rfl⟩
    rw [hX] at hc0 hXlt hlead
    have h7 := and7' ⟨X, hXlt⟩
    simp only at h7
    have ha0 : wr.cell? ⟨1, X / 16 * 2, none⟩ = some (.int .u8 (Lib.accLo (X / 16) : Int)) := by rw [Nat.mul_comm]; exact (HTr.out.2 (X / 16) (by omega)).1
    have ha1 : wr.cell? ⟨1, X / 16 * 2 + 1, none⟩ = some (.int .u8 (Lib.accHi (X / 16) : Int)) := by rw [Nat.mul_comm]; exact (HTr.out.2 (X / 16) (by omega)).2
    obtain ⟨LO, hLO⟩ : ∃ LO, Lib.accLo (X / 16) = LO := ⟨_, rfl⟩
    obtain ⟨HI, hHI⟩ : ∃ HI, Lib.accHi (X / 16) = HI := ⟨_, rfl⟩
    rw [hLO] at ha0 hlead
    rw [hHI] at ha1 hlead
    obtain ⟨SZ, hSZ⟩ : ∃ SZ, X % 8 = SZ := ⟨_, rfl⟩
    rw [hSZ] at hlead h7
    have HL := hid hlead
    have HX1 := hid hx1; have HX2 := hid hx2; have HX3 := hid hx3
    have HXL := hid hXlt
    have HSZ := hid hSZ
    clear hlead hx1 hx2 hx3 hx0 hX hLO hHI hne hSZ HTr
    by_cases s2 : SZ = 2
    ·subst s2
     have HL2 := HL.out
     simp only [Lib.checkN, Nat.reduceEqDiff, if_true, if_false] at HL2
     have HL3 := hid HL2
     clear HL HL2
     have hSZz : (X : Int) % 8 = 2 := by have := HSZ.out; omega
     go_upto_region 18 with (fail)
     clear hSZz
     have hbk := block_new wr (.cells #[.int .u8 LO, .int .u8 HI] 121)
     have hb2 : Below wr.heap.size wr (wr.alloc (.cells #[.int .u8 LO, .int .u8 HI] 121)) := (Below.refl _ _).alloc (Nat.le_refl _) _
     have Tt' := hid (Tt.out.below hb2)
     have HB' := hid (HB.out.trans (Below.mono hb2 HB.out.size))
     obtain ⟨B, hB⟩ : ∃ B, B = wr.heap.size := ⟨_, rfl⟩
     rw [← hB] at hbk ⊢
     clear Tt HB HC c0 hc0 ha0 ha1 h7
     have Tt := Tt'; have HB := HB'
     clear Tt' HB' hb2 hB
     generalize wr.alloc (.cells #[.int .u8 LO, .int .u8 HI] 121) = W2 at *
     obtain ⟨b', o', e, C2⟩ := Tt.out.cells h0
     cases e
     have A0 := hid (cell_of_block (j := 0) hbk rfl)
     have A1 := hid (cell_of_block (j := 1) hbk rfl)
     have C := hid C2
     clear hbk C2
     by_cases q0 : t.size < 2
     ·have q0z : (t.size : Int) < 2 := by omega
      have HF : Hid (ANS = false) := by
       show _ = _
       have h := HL3.out
       rw [if_pos (by omega)] at h
       exact h
      clear q0
      refine wp_region_each 19 [.eq (.slice (some ⟨b, off, none⟩) t.size t.size), .eq (.int .i64 (t.size : Int)), .eq (.bool true), .eq (.bool true), .eq undef, .eq undef, .eq undef, .eq undef, .eq undef, .eq undef, .eq (.bool true), .eq (.bool true), .eq undef, .eq undef, .eq undef, .eq undef, .eq undef, .eq undef, .eq (.bool true)] (by kernel_rfl) (by kernel_rfl) (by kernel_rfl) (by kernel_rfl) ?_ ?_
      ·all_goals
        refine each_5 ?_ ?_ ?_ ?_ ?_ (each_5 ?_ ?_ ?_ ?_ ?_ (each_5 ?_ ?_ ?_ ?_ ?_ (each_c ?_ (each_c ?_ (each_c ?_ (each_c ?_ (each_n)))))))
        ·intro w1 hg Ar seen
         have s0 := seen.sl 0 (.slice (some ⟨b, off, none⟩) t.size t.size)
         refine does_plain rfl fun K Q' hK => ?_
         go_simp; exact hK _ _ (Grow.refl _) rfl
        ·intro w1 hg Ar seen
         have e0 := seen.de 0 85
         refine does_plain rfl fun K Q' hK => ?_
         go_simp; exact hK _ _ (Grow.refl _) rfl
        ·intro w1 hg Ar seen
         have e1 := seen.de 1 86
         refine does_plain rfl fun K Q' hK => ?_
         go_simp; exact hK _ _ (Grow.refl _) rfl
        ·intro w1 hg Ar seen
         have e2 := seen.de 2 87
         refine does_plain rfl fun K Q' hK => ?_
         go_simp; exact hK _ _ (Grow.refl _) rfl
        ·intro w1 hg Ar seen
         have e3 := seen.de 3 88
         exact does_off rfl (by kernel_rfl) e3 ne_tf (Grow.refl _) rfl
        ·intro w1 hg Ar seen
         have e3 := seen.de 3 88
         exact does_off rfl (by kernel_rfl) e3 ne_tf (Grow.refl _) rfl
        ·intro w1 hg Ar seen
         have e3 := seen.de 3 88
         exact does_off rfl (by kernel_rfl) e3 ne_tf (Grow.refl _) rfl
        ·intro w1 hg Ar seen
         have e3 := seen.de 3 88
         exact does_off rfl (by kernel_rfl) e3 ne_tf (Grow.refl _) rfl
        ·intro w1 hg Ar seen
         have e3 := seen.de 3 88
         exact does_off rfl (by kernel_rfl) e3 ne_tf (Grow.refl _) rfl
        ·intro w1 hg Ar seen
         have e3 := seen.de 3 88
         exact does_off rfl (by kernel_rfl) e3 ne_tf (Grow.refl _) rfl
        ·intro w1 hg Ar seen
         have e3 := seen.de 3 88
         have e9 := seen.de 9 94
         refine does_plain rfl fun K Q' hK => ?_
         go_simp; exact hK _ _ (Grow.refl _) rfl
        ·intro w1 hg Ar seen
         have e10 := seen.de 10 95
         refine does_plain rfl fun K Q' hK => ?_
         go_simp; exact hK _ _ (Grow.refl _) rfl
        ·intro w1 hg Ar seen
         have e11 := seen.de 11 96
         exact does_off rfl (by kernel_rfl) e11 ne_tf (Grow.refl _) rfl
        ·intro w1 hg Ar seen
         have e11 := seen.de 11 96
         exact does_off rfl (by kernel_rfl) e11 ne_tf (Grow.refl _) rfl
        ·intro w1 hg Ar seen
         have e11 := seen.de 11 96
         exact does_off rfl (by kernel_rfl) e11 ne_tf (Grow.refl _) rfl
        ·intro w1 hg Ar seen
         have e11 := seen.de 11 96
         exact does_off rfl (by kernel_rfl) e11 ne_tf (Grow.refl _) rfl
        ·intro w1 hg Ar seen
         have e11 := seen.de 11 96
         exact does_off rfl (by kernel_rfl) e11 ne_tf (Grow.refl _) rfl
        ·intro w1 hg Ar seen
         have e11 := seen.de 11 96
         exact does_off rfl (by kernel_rfl) e11 ne_tf (Grow.refl _) rfl
        ·intro w1 hg Ar seen
         have e11 := seen.de 11 96
         have e17 := seen.de 17 102
         refine does_plain rfl fun K Q' hK => ?_
         go_simp; exact hK _ _ (Grow.refl _) rfl
      intro w1 hg
      refine upon_w' (js := [0, 1, 2, 3, 4, 5, 6, 7, 8, 9, 10, 11, 12, 13, 14, 15, 16, 17, 18]) (by rfl) ?_
      refine upon_e (some 85) (upon_e (some 86) (upon_e (some 87) (upon_e (some 88) (upon_e (some 89) (upon_e (some 90) (upon_e (some 91) (upon_e (some 92) (upon_e (some 93) (upon_e (some 94) (upon_e (some 95) (upon_e (some 96) (upon_e (some 97) (upon_e (some 98) (upon_e (some 99) (upon_e (some 100) (upon_e (some 101) (upon_e (some 102) (upon_e (some 103) (upon_n ?_)))))))))))))))))))
      go_simp
      have HB' := hid (HB.out.trans (Below.mono hg HB.out.size))
      clear HB
      have HB := HB'
      clear HB'
      clear hg
      go_simp
      go_wp2_with fail
      go_ret
      exact ⟨by rw [HF.out]; rfl, HB.out⟩
     ·have q0z : ¬ ((t.size : Int) < 2) := by omega
      have hz1 : (1 : Int) < (t.size : Int) := by omega
      have hp1 : 1 < t.size := by omega
      have CX1 : Hid (W2.cell? ⟨b, off + 1, none⟩ = some (.int .u8 x1.toNat)) := by have := C.out 1 (by omega); rw [HX1.out] at this; exact this
      by_cases q1 : x1.toNat < LO
      ·have q1z : (x1.toNat : Int) < (LO : Int) := by omega
       have HF : Hid (ANS = false) := by
        show _ = _
        have h := HL3.out
        rw [if_pos (by omega)] at h
        exact h
       clear q1
       refine wp_region_each 19 [.eq (.slice (some ⟨b, off, none⟩) t.size t.size), .eq (.int .i64 (t.size : Int)), .eq (.bool false), .eq (.bool false), .eq (.slice (some ⟨b, off, none⟩) t.size t.size), .eq (.pointer (some ⟨b, off + 1, none⟩)), .eq (.int .u8 x1.toNat), .eq (.pointer (some ⟨B, 0, none⟩)), .eq (.int .u8 LO), .eq (.bool true), .eq (.bool true), .eq (.bool true), .eq undef, .eq undef, .eq undef, .eq undef, .eq undef, .eq undef, .eq (.bool true)] (by kernel_rfl) (by kernel_rfl) (by kernel_rfl) (by kernel_rfl) ?_ ?_
       ·all_goals
         refine each_5 ?_ ?_ ?_ ?_ ?_ (each_5 ?_ ?_ ?_ ?_ ?_ (each_5 ?_ ?_ ?_ ?_ ?_ (each_c ?_ (each_c ?_ (each_c ?_ (each_c ?_ (each_n)))))))
         ·intro w1 hg Ar seen
          have s0 := seen.sl 0 (.slice (some ⟨b, off, none⟩) t.size t.size)
          refine does_plain rfl fun K Q' hK => ?_
          go_simp; exact hK _ _ (Grow.refl _) rfl
         ·intro w1 hg Ar seen
          have e0 := seen.de 0 85
          refine does_plain rfl fun K Q' hK => ?_
          go_simp; exact hK _ _ (Grow.refl _) rfl
         ·intro w1 hg Ar seen
          have e1 := seen.de 1 86
          refine does_plain rfl fun K Q' hK => ?_
          go_simp; exact hK _ _ (Grow.refl _) rfl
         ·intro w1 hg Ar seen
          have e2 := seen.de 2 87
          refine does_plain rfl fun K Q' hK => ?_
          go_simp; exact hK _ _ (Grow.refl _) rfl
         ·intro w1 hg Ar seen
          have e3 := seen.de 3 88
          have s0 := seen.sl 0 (.slice (some ⟨b, off, none⟩) t.size t.size)
          refine does_on rfl (by kernel_rfl) e3 fun K Q' hK => ?_
          clear e3
          go_simp; exact hK _ _ (Grow.refl _) rfl
         ·intro w1 hg Ar seen
          have e4 := seen.de 4 89
          have e3 := seen.de 3 88
          refine does_on rfl (by kernel_rfl) e3 fun K Q' hK => ?_
          clear e3
          go_simp; exact hK _ _ (Grow.refl _) rfl
         ·intro w1 hg Ar seen
          have e5 := seen.de 5 90
          have e3 := seen.de 3 88
          refine does_on rfl (by kernel_rfl) e3 fun K Q' hK => ?_
          clear e3
          have hc := cell_later hg CX1.out
          go_simp; exact hK _ _ (Grow.refl _) rfl
         ·intro w1 hg Ar seen
          have e3 := seen.de 3 88
          have s6 := seen.sl 6 (.pointer (some ⟨B, 0, none⟩))
          refine does_on rfl (by kernel_rfl) e3 fun K Q' hK => ?_
          clear e3
          go_simp; exact hK _ _ (Grow.refl _) rfl
         ·intro w1 hg Ar seen
          have e7 := seen.de 7 92
          have e3 := seen.de 3 88
          refine does_on rfl (by kernel_rfl) e3 fun K Q' hK => ?_
          clear e3
          have hc := cell_later hg A0.out
          go_simp; exact hK _ _ (Grow.refl _) rfl
         ·intro w1 hg Ar seen
          have e6 := seen.de 6 91
          have e8 := seen.de 8 93
          have e3 := seen.de 3 88
          refine does_on rfl (by kernel_rfl) e3 fun K Q' hK => ?_
          clear e3
          go_simp; exact hK _ _ (Grow.refl _) rfl
         ·intro w1 hg Ar seen
          have e3 := seen.de 3 88
          have e9 := seen.de 9 94
          refine does_plain rfl fun K Q' hK => ?_
          go_simp; exact hK _ _ (Grow.refl _) rfl
         ·intro w1 hg Ar seen
          have e10 := seen.de 10 95
          refine does_plain rfl fun K Q' hK => ?_
          go_simp; exact hK _ _ (Grow.refl _) rfl
         ·intro w1 hg Ar seen
          have e11 := seen.de 11 96
          exact does_off rfl (by kernel_rfl) e11 ne_tf (Grow.refl _) rfl
         ·intro w1 hg Ar seen
          have e11 := seen.de 11 96
          exact does_off rfl (by kernel_rfl) e11 ne_tf (Grow.refl _) rfl
         ·intro w1 hg Ar seen
          have e11 := seen.de 11 96
          exact does_off rfl (by kernel_rfl) e11 ne_tf (Grow.refl _) rfl
         ·intro w1 hg Ar seen
          have e11 := seen.de 11 96
          exact does_off rfl (by kernel_rfl) e11 ne_tf (Grow.refl _) rfl
         ·intro w1 hg Ar seen
          have e11 := seen.de 11 96
          exact does_off rfl (by kernel_rfl) e11 ne_tf (Grow.refl _) rfl
         ·intro w1 hg Ar seen
          have e11 := seen.de 11 96
          exact does_off rfl (by kernel_rfl) e11 ne_tf (Grow.refl _) rfl
         ·intro w1 hg Ar seen
          have e11 := seen.de 11 96
          have e17 := seen.de 17 102
          refine does_plain rfl fun K Q' hK => ?_
          go_simp; exact hK _ _ (Grow.refl _) rfl
       intro w1 hg
       refine upon_w' (js := [0, 1, 2, 3, 4, 5, 6, 7, 8, 9, 10, 11, 12, 13, 14, 15, 16, 17, 18]) (by rfl) ?_
       refine upon_e (some 85) (upon_e (some 86) (upon_e (some 87) (upon_e (some 88) (upon_e (some 89) (upon_e (some 90) (upon_e (some 91) (upon_e (some 92) (upon_e (some 93) (upon_e (some 94) (upon_e (some 95) (upon_e (some 96) (upon_e (some 97) (upon_e (some 98) (upon_e (some 99) (upon_e (some 100) (upon_e (some 101) (upon_e (some 102) (upon_e (some 103) (upon_n ?_)))))))))))))))))))
       go_simp
       have HB' := hid (HB.out.trans (Below.mono hg HB.out.size))
       clear HB
       have HB := HB'
       clear HB'
       clear hg
       go_simp
       go_wp2_with fail
       go_ret
       exact ⟨by rw [HF.out]; rfl, HB.out⟩
      ·have q1z : ¬ ((x1.toNat : Int) < (LO : Int)) := by omega
       by_cases q2 : HI < x1.toNat
       ·have q2z : (HI : Int) < (x1.toNat : Int) := by omega
        have HF : Hid (ANS = false) := by
         show _ = _
         have h := HL3.out
         rw [if_pos (by omega)] at h
         exact h
        clear q2
        refine wp_region_each 19 [.eq (.slice (some ⟨b, off, none⟩) t.size t.size), .eq (.int .i64 (t.size : Int)), .eq (.bool false), .eq (.bool false), .eq (.slice (some ⟨b, off, none⟩) t.size t.size), .eq (.pointer (some ⟨b, off + 1, none⟩)), .eq (.int .u8 x1.toNat), .eq (.pointer (some ⟨B, 0, none⟩)), .eq (.int .u8 LO), .eq (.bool false), .eq (.bool false), .eq (.bool false), .eq (.pointer (some ⟨B, 1, none⟩)), .eq (.int .u8 HI), .eq (.slice (some ⟨b, off, none⟩) t.size t.size), .eq (.pointer (some ⟨b, off + 1, none⟩)), .eq (.int .u8 x1.toNat), .eq (.bool true), .eq (.bool true)] (by kernel_rfl) (by kernel_rfl) (by kernel_rfl) (by kernel_rfl) ?_ ?_
        ·all_goals
          refine each_5 ?_ ?_ ?_ ?_ ?_ (each_5 ?_ ?_ ?_ ?_ ?_ (each_5 ?_ ?_ ?_ ?_ ?_ (each_c ?_ (each_c ?_ (each_c ?_ (each_c ?_ (each_n)))))))
          ·intro w1 hg Ar seen
           have s0 := seen.sl 0 (.slice (some ⟨b, off, none⟩) t.size t.size)
           refine does_plain rfl fun K Q' hK => ?_
           go_simp; exact hK _ _ (Grow.refl _) rfl
          ·intro w1 hg Ar seen
           have e0 := seen.de 0 85
           refine does_plain rfl fun K Q' hK => ?_
           go_simp; exact hK _ _ (Grow.refl _) rfl
          ·intro w1 hg Ar seen
           have e1 := seen.de 1 86
           refine does_plain rfl fun K Q' hK => ?_
           go_simp; exact hK _ _ (Grow.refl _) rfl
          ·intro w1 hg Ar seen
           have e2 := seen.de 2 87
           refine does_plain rfl fun K Q' hK => ?_
           go_simp; exact hK _ _ (Grow.refl _) rfl
          ·intro w1 hg Ar seen
           have e3 := seen.de 3 88
           have s0 := seen.sl 0 (.slice (some ⟨b, off, none⟩) t.size t.size)
           refine does_on rfl (by kernel_rfl) e3 fun K Q' hK => ?_
           clear e3
           go_simp; exact hK _ _ (Grow.refl _) rfl
          ·intro w1 hg Ar seen
           have e4 := seen.de 4 89
           have e3 := seen.de 3 88
           refine does_on rfl (by kernel_rfl) e3 fun K Q' hK => ?_
           clear e3
           go_simp; exact hK _ _ (Grow.refl _) rfl
          ·intro w1 hg Ar seen
           have e5 := seen.de 5 90
           have e3 := seen.de 3 88
           refine does_on rfl (by kernel_rfl) e3 fun K Q' hK => ?_
           clear e3
           have hc := cell_later hg CX1.out
           go_simp; exact hK _ _ (Grow.refl _) rfl
          ·intro w1 hg Ar seen
           have e3 := seen.de 3 88
           have s6 := seen.sl 6 (.pointer (some ⟨B, 0, none⟩))
           refine does_on rfl (by kernel_rfl) e3 fun K Q' hK => ?_
           clear e3
           go_simp; exact hK _ _ (Grow.refl _) rfl
          ·intro w1 hg Ar seen
           have e7 := seen.de 7 92
           have e3 := seen.de 3 88
           refine does_on rfl (by kernel_rfl) e3 fun K Q' hK => ?_
           clear e3
           have hc := cell_later hg A0.out
           go_simp; exact hK _ _ (Grow.refl _) rfl
          ·intro w1 hg Ar seen
           have e6 := seen.de 6 91
           have e8 := seen.de 8 93
           have e3 := seen.de 3 88
           refine does_on rfl (by kernel_rfl) e3 fun K Q' hK => ?_
           clear e3
           go_simp; exact hK _ _ (Grow.refl _) rfl
          ·intro w1 hg Ar seen
           have e3 := seen.de 3 88
           have e9 := seen.de 9 94
           refine does_plain rfl fun K Q' hK => ?_
           go_simp; exact hK _ _ (Grow.refl _) rfl
          ·intro w1 hg Ar seen
           have e10 := seen.de 10 95
           refine does_plain rfl fun K Q' hK => ?_
           go_simp; exact hK _ _ (Grow.refl _) rfl
          ·intro w1 hg Ar seen
           have e11 := seen.de 11 96
           have s6 := seen.sl 6 (.pointer (some ⟨B, 0, none⟩))
           refine does_on rfl (by kernel_rfl) e11 fun K Q' hK => ?_
           clear e11
           go_simp; exact hK _ _ (Grow.refl _) rfl
          ·intro w1 hg Ar seen
           have e12 := seen.de 12 97
           have e11 := seen.de 11 96
           refine does_on rfl (by kernel_rfl) e11 fun K Q' hK => ?_
           clear e11
           have hc := cell_later hg A1.out
           go_simp; exact hK _ _ (Grow.refl _) rfl
          ·intro w1 hg Ar seen
           have e11 := seen.de 11 96
           have s0 := seen.sl 0 (.slice (some ⟨b, off, none⟩) t.size t.size)
           refine does_on rfl (by kernel_rfl) e11 fun K Q' hK => ?_
           clear e11
           go_simp; exact hK _ _ (Grow.refl _) rfl
          ·intro w1 hg Ar seen
           have e14 := seen.de 14 99
           have e11 := seen.de 11 96
           refine does_on rfl (by kernel_rfl) e11 fun K Q' hK => ?_
           clear e11
           go_simp; exact hK _ _ (Grow.refl _) rfl
          ·intro w1 hg Ar seen
           have e15 := seen.de 15 100
           have e11 := seen.de 11 96
           refine does_on rfl (by kernel_rfl) e11 fun K Q' hK => ?_
           clear e11
           have hc := cell_later hg CX1.out
           go_simp; exact hK _ _ (Grow.refl _) rfl
          ·intro w1 hg Ar seen
           have e13 := seen.de 13 98
           have e16 := seen.de 16 101
           have e11 := seen.de 11 96
           refine does_on rfl (by kernel_rfl) e11 fun K Q' hK => ?_
           clear e11
           go_simp; exact hK _ _ (Grow.refl _) rfl
          ·intro w1 hg Ar seen
           have e11 := seen.de 11 96
           have e17 := seen.de 17 102
           refine does_plain rfl fun K Q' hK => ?_
           go_simp; exact hK _ _ (Grow.refl _) rfl
        intro w1 hg
        refine upon_w' (js := [0, 1, 2, 3, 4, 5, 6, 7, 8, 9, 10, 11, 12, 13, 14, 15, 16, 17, 18]) (by rfl) ?_
        refine upon_e (some 85) (upon_e (some 86) (upon_e (some 87) (upon_e (some 88) (upon_e (some 89) (upon_e (some 90) (upon_e (some 91) (upon_e (some 92) (upon_e (some 93) (upon_e (some 94) (upon_e (some 95) (upon_e (some 96) (upon_e (some 97) (upon_e (some 98) (upon_e (some 99) (upon_e (some 100) (upon_e (some 101) (upon_e (some 102) (upon_e (some 103) (upon_n ?_)))))))))))))))))))
        go_simp
        have HB' := hid (HB.out.trans (Below.mono hg HB.out.size))
        clear HB
        have HB := HB'
        clear HB'
        clear hg
        go_simp
        go_wp2_with fail
        go_ret
        exact ⟨by rw [HF.out]; rfl, HB.out⟩
       ·have q2z : ¬ ((HI : Int) < (x1.toNat : Int)) := by omega
        have HF : Hid (ANS = Lib.validD (t.data.toList.drop 2)) := by
         show _ = _
         have h := HL3.out
         rw [if_neg (by omega)] at h
         exact h
        refine wp_region_each 19 [.eq (.slice (some ⟨b, off, none⟩) t.size t.size), .eq (.int .i64 (t.size : Int)), .eq (.bool false), .eq (.bool false), .eq (.slice (some ⟨b, off, none⟩) t.size t.size), .eq (.pointer (some ⟨b, off + 1, none⟩)), .eq (.int .u8 x1.toNat), .eq (.pointer (some ⟨B, 0, none⟩)), .eq (.int .u8 LO), .eq (.bool false), .eq (.bool false), .eq (.bool false), .eq (.pointer (some ⟨B, 1, none⟩)), .eq (.int .u8 HI), .eq (.slice (some ⟨b, off, none⟩) t.size t.size), .eq (.pointer (some ⟨b, off + 1, none⟩)), .eq (.int .u8 x1.toNat), .eq (.bool false), .eq (.bool false)] (by kernel_rfl) (by kernel_rfl) (by kernel_rfl) (by kernel_rfl) ?_ ?_
        ·all_goals
          refine each_5 ?_ ?_ ?_ ?_ ?_ (each_5 ?_ ?_ ?_ ?_ ?_ (each_5 ?_ ?_ ?_ ?_ ?_ (each_c ?_ (each_c ?_ (each_c ?_ (each_c ?_ (each_n)))))))
          ·intro w1 hg Ar seen
           have s0 := seen.sl 0 (.slice (some ⟨b, off, none⟩) t.size t.size)
           refine does_plain rfl fun K Q' hK => ?_
           go_simp; exact hK _ _ (Grow.refl _) rfl
          ·intro w1 hg Ar seen
           have e0 := seen.de 0 85
           refine does_plain rfl fun K Q' hK => ?_
           go_simp; exact hK _ _ (Grow.refl _) rfl
          ·intro w1 hg Ar seen
           have e1 := seen.de 1 86
           refine does_plain rfl fun K Q' hK => ?_
           go_simp; exact hK _ _ (Grow.refl _) rfl
          ·intro w1 hg Ar seen
           have e2 := seen.de 2 87
           refine does_plain rfl fun K Q' hK => ?_
           go_simp; exact hK _ _ (Grow.refl _) rfl
          ·intro w1 hg Ar seen
           have e3 := seen.de 3 88
           have s0 := seen.sl 0 (.slice (some ⟨b, off, none⟩) t.size t.size)
           refine does_on rfl (by kernel_rfl) e3 fun K Q' hK => ?_
           clear e3
           go_simp; exact hK _ _ (Grow.refl _) rfl
          ·intro w1 hg Ar seen
           have e4 := seen.de 4 89
           have e3 := seen.de 3 88
           refine does_on rfl (by kernel_rfl) e3 fun K Q' hK => ?_
           clear e3
           go_simp; exact hK _ _ (Grow.refl _) rfl
          ·intro w1 hg Ar seen
           have e5 := seen.de 5 90
           have e3 := seen.de 3 88
           refine does_on rfl (by kernel_rfl) e3 fun K Q' hK => ?_
           clear e3
           have hc := cell_later hg CX1.out
           go_simp; exact hK _ _ (Grow.refl _) rfl
          ·intro w1 hg Ar seen
           have e3 := seen.de 3 88
           have s6 := seen.sl 6 (.pointer (some ⟨B, 0, none⟩))
           refine does_on rfl (by kernel_rfl) e3 fun K Q' hK => ?_
           clear e3
           go_simp; exact hK _ _ (Grow.refl _) rfl
          ·intro w1 hg Ar seen
           have e7 := seen.de 7 92
           have e3 := seen.de 3 88
           refine does_on rfl (by kernel_rfl) e3 fun K Q' hK => ?_
           clear e3
           have hc := cell_later hg A0.out
           go_simp; exact hK _ _ (Grow.refl _) rfl
          ·intro w1 hg Ar seen
           have e6 := seen.de 6 91
           have e8 := seen.de 8 93
           have e3 := seen.de 3 88
           refine does_on rfl (by kernel_rfl) e3 fun K Q' hK => ?_
           clear e3
           go_simp; exact hK _ _ (Grow.refl _) rfl
          ·intro w1 hg Ar seen
           have e3 := seen.de 3 88
           have e9 := seen.de 9 94
           refine does_plain rfl fun K Q' hK => ?_
           go_simp; exact hK _ _ (Grow.refl _) rfl
          ·intro w1 hg Ar seen
           have e10 := seen.de 10 95
           refine does_plain rfl fun K Q' hK => ?_
           go_simp; exact hK _ _ (Grow.refl _) rfl
          ·intro w1 hg Ar seen
           have e11 := seen.de 11 96
           have s6 := seen.sl 6 (.pointer (some ⟨B, 0, none⟩))
           refine does_on rfl (by kernel_rfl) e11 fun K Q' hK => ?_
           clear e11
           go_simp; exact hK _ _ (Grow.refl _) rfl
          ·intro w1 hg Ar seen
           have e12 := seen.de 12 97
           have e11 := seen.de 11 96
           refine does_on rfl (by kernel_rfl) e11 fun K Q' hK => ?_
           clear e11
           have hc := cell_later hg A1.out
           go_simp; exact hK _ _ (Grow.refl _) rfl
          ·intro w1 hg Ar seen
           have e11 := seen.de 11 96
           have s0 := seen.sl 0 (.slice (some ⟨b, off, none⟩) t.size t.size)
           refine does_on rfl (by kernel_rfl) e11 fun K Q' hK => ?_
           clear e11
           go_simp; exact hK _ _ (Grow.refl _) rfl
          ·intro w1 hg Ar seen
           have e14 := seen.de 14 99
           have e11 := seen.de 11 96
           refine does_on rfl (by kernel_rfl) e11 fun K Q' hK => ?_
           clear e11
           go_simp; exact hK _ _ (Grow.refl _) rfl
          ·intro w1 hg Ar seen
           have e15 := seen.de 15 100
           have e11 := seen.de 11 96
           refine does_on rfl (by kernel_rfl) e11 fun K Q' hK => ?_
           clear e11
           have hc := cell_later hg CX1.out
           go_simp; exact hK _ _ (Grow.refl _) rfl
          ·intro w1 hg Ar seen
           have e13 := seen.de 13 98
           have e16 := seen.de 16 101
           have e11 := seen.de 11 96
           refine does_on rfl (by kernel_rfl) e11 fun K Q' hK => ?_
           clear e11
           go_simp; exact hK _ _ (Grow.refl _) rfl
          ·intro w1 hg Ar seen
           have e11 := seen.de 11 96
           have e17 := seen.de 17 102
           refine does_plain rfl fun K Q' hK => ?_
           go_simp; exact hK _ _ (Grow.refl _) rfl
        intro w1 hg
        refine upon_w' (js := [0, 1, 2, 3, 4, 5, 6, 7, 8, 9, 10, 11, 12, 13, 14, 15, 16, 17, 18]) (by rfl) ?_
        refine upon_e (some 85) (upon_e (some 86) (upon_e (some 87) (upon_e (some 88) (upon_e (some 89) (upon_e (some 90) (upon_e (some 91) (upon_e (some 92) (upon_e (some 93) (upon_e (some 94) (upon_e (some 95) (upon_e (some 96) (upon_e (some 97) (upon_e (some 98) (upon_e (some 99) (upon_e (some 100) (upon_e (some 101) (upon_e (some 102) (upon_e (some 103) (upon_n ?_)))))))))))))))))))
        go_simp
        have HB' := hid (HB.out.trans (Below.mono hg HB.out.size))
        clear HB
        have HB := HB'
        clear HB'
        have Tt' := hid (Tt.out.below hg)
        clear Tt hg C A0 A1
        have Tt := Tt'
        clear Tt'
        go_simp
        obtain ⟨at9, t9, ht9, zt9, tbt9, slt9⟩ := Tt.out.sl 2 2 rfl (by omega)
        have Tt9 := hid tbt9
        have Yt9 := hid zt9
        clear tbt9 zt9
        have HVt9 : Hid (Lib.validD t9.data.toList = ANS) := by show _ = _; rw [ht9, Lib.ext_list, HF.out]
        clear ht9
        go_wp2_with fail
        have HR : VSt ANS w _ _ := ⟨⟨_, t9, rfl, Tt9.out, HVt9.out, (by have := Yt9.out; omega), HB.out⟩⟩
        go_roundw
        case rel => first | exact HR | ((repeat apply Exists.intro); exact HR) | ((repeat apply Exists.intro); exact ⟨HR, rfl⟩)
        case measure => (simp [lenOf] <;> (have := Yt9.out; omega))
    by_cases s3 : SZ = 3
    ·subst s3
     have HL2 := HL.out
     simp only [Lib.checkN, Nat.reduceEqDiff, if_true, if_false] at HL2
     have HL3 := hid HL2
     clear HL HL2
     have hSZz : (X : Int) % 8 = 3 := by have := HSZ.out; omega
     go_upto_region 22 with (fail)
     clear hSZz
     have hbk := block_new wr (.cells #[.int .u8 LO, .int .u8 HI] 121)
     have hb2 : Below wr.heap.size wr (wr.alloc (.cells #[.int .u8 LO, .int .u8 HI] 121)) := (Below.refl _ _).alloc (Nat.le_refl _) _
     have Tt' := hid (Tt.out.below hb2)
     have HB' := hid (HB.out.trans (Below.mono hb2 HB.out.size))
     obtain ⟨B, hB⟩ : ∃ B, B = wr.heap.size := ⟨_, rfl⟩
     rw [← hB] at hbk ⊢
     clear Tt HB HC c0 hc0 ha0 ha1 h7
     have Tt := Tt'; have HB := HB'
     clear Tt' HB' hb2 hB
     generalize wr.alloc (.cells #[.int .u8 LO, .int .u8 HI] 121) = W2 at *
     obtain ⟨b', o', e, C2⟩ := Tt.out.cells h0
     cases e
     have A0 := hid (cell_of_block (j := 0) hbk rfl)
     have A1 := hid (cell_of_block (j := 1) hbk rfl)
     have C := hid C2
     clear hbk C2
     by_cases q0 : t.size < 3
     ·have q0z : (t.size : Int) < 3 := by omega
      have HF : Hid (ANS = false) := by
       show _ = _
       have h := HL3.out
       rw [if_pos (by omega)] at h
       exact h
      clear q0
      refine wp_region_each 31 [.eq (.slice (some ⟨b, off, none⟩) t.size t.size), .eq (.int .i64 (t.size : Int)), .eq (.bool true), .eq (.bool true), .eq undef, .eq undef, .eq undef, .eq undef, .eq undef, .eq undef, .eq (.bool true), .eq (.bool true), .eq undef, .eq undef, .eq undef, .eq undef, .eq undef, .eq undef, .eq (.bool true), .eq (.bool true), .eq undef, .eq undef, .eq undef, .eq undef, .eq (.bool true), .eq (.bool true), .eq undef, .eq undef, .eq undef, .eq undef, .eq (.bool true)] (by kernel_rfl) (by kernel_rfl) (by kernel_rfl) (by kernel_rfl) ?_ ?_
      ·all_goals
        refine each_5 ?_ ?_ ?_ ?_ ?_ (each_5 ?_ ?_ ?_ ?_ ?_ (each_5 ?_ ?_ ?_ ?_ ?_ (each_5 ?_ ?_ ?_ ?_ ?_ (each_5 ?_ ?_ ?_ ?_ ?_ (each_5 ?_ ?_ ?_ ?_ ?_ (each_c ?_ (each_n)))))))
        ·intro w1 hg Ar seen
         have s0 := seen.sl 0 (.slice (some ⟨b, off, none⟩) t.size t.size)
         refine does_plain rfl fun K Q' hK => ?_
         go_simp; exact hK _ _ (Grow.refl _) rfl
        ·intro w1 hg Ar seen
         have e0 := seen.de 0 108
         refine does_plain rfl fun K Q' hK => ?_
         go_simp; exact hK _ _ (Grow.refl _) rfl
        ·intro w1 hg Ar seen
         have e1 := seen.de 1 109
         refine does_plain rfl fun K Q' hK => ?_
         go_simp; exact hK _ _ (Grow.refl _) rfl
        ·intro w1 hg Ar seen
         have e2 := seen.de 2 110
         refine does_plain rfl fun K Q' hK => ?_
         go_simp; exact hK _ _ (Grow.refl _) rfl
        ·intro w1 hg Ar seen
         have e3 := seen.de 3 111
         exact does_off rfl (by kernel_rfl) e3 ne_tf (Grow.refl _) rfl
        ·intro w1 hg Ar seen
         have e3 := seen.de 3 111
         exact does_off rfl (by kernel_rfl) e3 ne_tf (Grow.refl _) rfl
        ·intro w1 hg Ar seen
         have e3 := seen.de 3 111
         exact does_off rfl (by kernel_rfl) e3 ne_tf (Grow.refl _) rfl
        ·intro w1 hg Ar seen
         have e3 := seen.de 3 111
         exact does_off rfl (by kernel_rfl) e3 ne_tf (Grow.refl _) rfl
        ·intro w1 hg Ar seen
         have e3 := seen.de 3 111
         exact does_off rfl (by kernel_rfl) e3 ne_tf (Grow.refl _) rfl
        ·intro w1 hg Ar seen
         have e3 := seen.de 3 111
         exact does_off rfl (by kernel_rfl) e3 ne_tf (Grow.refl _) rfl
        ·intro w1 hg Ar seen
         have e3 := seen.de 3 111
         have e9 := seen.de 9 117
         refine does_plain rfl fun K Q' hK => ?_
         go_simp; exact hK _ _ (Grow.refl _) rfl
        ·intro w1 hg Ar seen
         have e10 := seen.de 10 118
         refine does_plain rfl fun K Q' hK => ?_
         go_simp; exact hK _ _ (Grow.refl _) rfl
        ·intro w1 hg Ar seen
         have e11 := seen.de 11 119
         exact does_off rfl (by kernel_rfl) e11 ne_tf (Grow.refl _) rfl
        ·intro w1 hg Ar seen
         have e11 := seen.de 11 119
         exact does_off rfl (by kernel_rfl) e11 ne_tf (Grow.refl _) rfl
        ·intro w1 hg Ar seen
         have e11 := seen.de 11 119
         exact does_off rfl (by kernel_rfl) e11 ne_tf (Grow.refl _) rfl
        ·intro w1 hg Ar seen
         have e11 := seen.de 11 119
         exact does_off rfl (by kernel_rfl) e11 ne_tf (Grow.refl _) rfl
        ·intro w1 hg Ar seen
         have e11 := seen.de 11 119
         exact does_off rfl (by kernel_rfl) e11 ne_tf (Grow.refl _) rfl
        ·intro w1 hg Ar seen
         have e11 := seen.de 11 119
         exact does_off rfl (by kernel_rfl) e11 ne_tf (Grow.refl _) rfl
        ·intro w1 hg Ar seen
         have e11 := seen.de 11 119
         have e17 := seen.de 17 125
         refine does_plain rfl fun K Q' hK => ?_
         go_simp; exact hK _ _ (Grow.refl _) rfl
        ·intro w1 hg Ar seen
         have e18 := seen.de 18 126
         refine does_plain rfl fun K Q' hK => ?_
         go_simp; exact hK _ _ (Grow.refl _) rfl
        ·intro w1 hg Ar seen
         have e19 := seen.de 19 127
         exact does_off rfl (by kernel_rfl) e19 ne_tf (Grow.refl _) rfl
        ·intro w1 hg Ar seen
         have e19 := seen.de 19 127
         exact does_off rfl (by kernel_rfl) e19 ne_tf (Grow.refl _) rfl
        ·intro w1 hg Ar seen
         have e19 := seen.de 19 127
         exact does_off rfl (by kernel_rfl) e19 ne_tf (Grow.refl _) rfl
        ·intro w1 hg Ar seen
         have e19 := seen.de 19 127
         exact does_off rfl (by kernel_rfl) e19 ne_tf (Grow.refl _) rfl
        ·intro w1 hg Ar seen
         have e19 := seen.de 19 127
         have e23 := seen.de 23 131
         refine does_plain rfl fun K Q' hK => ?_
         go_simp; exact hK _ _ (Grow.refl _) rfl
        ·intro w1 hg Ar seen
         have e24 := seen.de 24 132
         refine does_plain rfl fun K Q' hK => ?_
         go_simp; exact hK _ _ (Grow.refl _) rfl
        ·intro w1 hg Ar seen
         have e25 := seen.de 25 133
         exact does_off rfl (by kernel_rfl) e25 ne_tf (Grow.refl _) rfl
        ·intro w1 hg Ar seen
         have e25 := seen.de 25 133
         exact does_off rfl (by kernel_rfl) e25 ne_tf (Grow.refl _) rfl
        ·intro w1 hg Ar seen
         have e25 := seen.de 25 133
         exact does_off rfl (by kernel_rfl) e25 ne_tf (Grow.refl _) rfl
        ·intro w1 hg Ar seen
         have e25 := seen.de 25 133
         exact does_off rfl (by kernel_rfl) e25 ne_tf (Grow.refl _) rfl
        ·intro w1 hg Ar seen
         have e25 := seen.de 25 133
         have e29 := seen.de 29 137
         refine does_plain rfl fun K Q' hK => ?_
         go_simp; exact hK _ _ (Grow.refl _) rfl
      intro w1 hg
      refine upon_w' (js := [0, 1, 2, 3, 4, 5, 6, 7, 8, 9, 10, 11, 12, 13, 14, 15, 16, 17, 18, 19, 20, 21, 22, 23, 24, 25, 26, 27, 28, 29, 30]) (by rfl) ?_
      refine upon_e (some 108) (upon_e (some 109) (upon_e (some 110) (upon_e (some 111) (upon_e (some 112) (upon_e (some 113) (upon_e (some 114) (upon_e (some 115) (upon_e (some 116) (upon_e (some 117) (upon_e (some 118) (upon_e (some 119) (upon_e (some 120) (upon_e (some 121) (upon_e (some 122) (upon_e (some 123) (upon_e (some 124) (upon_e (some 125) (upon_e (some 126) (upon_e (some 127) (upon_e (some 128) (upon_e (some 129) (upon_e (some 130) (upon_e (some 131) (upon_e (some 132) (upon_e (some 133) (upon_e (some 134) (upon_e (some 135) (upon_e (some 136) (upon_e (some 137) (upon_e (some 138) (upon_n ?_)))))))))))))))))))))))))))))))
      go_simp
      have HB' := hid (HB.out.trans (Below.mono hg HB.out.size))
      clear HB
      have HB := HB'
      clear HB'
      clear hg
      go_simp
      go_wp2_with fail
      go_ret
      exact ⟨by rw [HF.out]; rfl, HB.out⟩
     ·have q0z : ¬ ((t.size : Int) < 3) := by omega
      have hz1 : (1 : Int) < (t.size : Int) := by omega
      have hp1 : 1 < t.size := by omega
      have CX1 : Hid (W2.cell? ⟨b, off + 1, none⟩ = some (.int .u8 x1.toNat)) := by have := C.out 1 (by omega); rw [HX1.out] at this; exact this
      have hz2 : (2 : Int) < (t.size : Int) := by omega
      have hp2 : 2 < t.size := by omega
      have CX2 : Hid (W2.cell? ⟨b, off + 2, none⟩ = some (.int .u8 x2.toNat)) := by have := C.out 2 (by omega); rw [HX2.out] at this; exact this
      by_cases q1 : x1.toNat < LO
      ·have q1z : (x1.toNat : Int) < (LO : Int) := by omega
       have HF : Hid (ANS = false) := by
        show _ = _
        have h := HL3.out
        rw [if_pos (by omega)] at h
        exact h
       clear q1
       refine wp_region_each 31 [.eq (.slice (some ⟨b, off, none⟩) t.size t.size), .eq (.int .i64 (t.size : Int)), .eq (.bool false), .eq (.bool false), .eq (.slice (some ⟨b, off, none⟩) t.size t.size), .eq (.pointer (some ⟨b, off + 1, none⟩)), .eq (.int .u8 x1.toNat), .eq (.pointer (some ⟨B, 0, none⟩)), .eq (.int .u8 LO), .eq (.bool true), .eq (.bool true), .eq (.bool true), .eq undef, .eq undef, .eq undef, .eq undef, .eq undef, .eq undef, .eq (.bool true), .eq (.bool true), .eq undef, .eq undef, .eq undef, .eq undef, .eq (.bool true), .eq (.bool true), .eq undef, .eq undef, .eq undef, .eq undef, .eq (.bool true)] (by kernel_rfl) (by kernel_rfl) (by kernel_rfl) (by kernel_rfl) ?_ ?_
       ·all_goals
         refine each_5 ?_ ?_ ?_ ?_ ?_ (each_5 ?_ ?_ ?_ ?_ ?_ (each_5 ?_ ?_ ?_ ?_ ?_ (each_5 ?_ ?_ ?_ ?_ ?_ (each_5 ?_ ?_ ?_ ?_ ?_ (each_5 ?_ ?_ ?_ ?_ ?_ (each_c ?_ (each_n)))))))
         ·intro w1 hg Ar seen
          have s0 := seen.sl 0 (.slice (some ⟨b, off, none⟩) t.size t.size)
          refine does_plain rfl fun K Q' hK => ?_
          go_simp; exact hK _ _ (Grow.refl _) rfl
         ·intro w1 hg Ar seen
          have e0 := seen.de 0 108
          refine does_plain rfl fun K Q' hK => ?_
          go_simp; exact hK _ _ (Grow.refl _) rfl
         ·intro w1 hg Ar seen
          have e1 := seen.de 1 109
          refine does_plain rfl fun K Q' hK => ?_
          go_simp; exact hK _ _ (Grow.refl _) rfl
         ·intro w1 hg Ar seen
          have e2 := seen.de 2 110
          refine does_plain rfl fun K Q' hK => ?_
          go_simp; exact hK _ _ (Grow.refl _) rfl
         ·intro w1 hg Ar seen
          have e3 := seen.de 3 111
          have s0 := seen.sl 0 (.slice (some ⟨b, off, none⟩) t.size t.size)
          refine does_on rfl (by kernel_rfl) e3 fun K Q' hK => ?_
          clear e3
          go_simp; exact hK _ _ (Grow.refl _) rfl
         ·intro w1 hg Ar seen
          have e4 := seen.de 4 112
          have e3 := seen.de 3 111
          refine does_on rfl (by kernel_rfl) e3 fun K Q' hK => ?_
          clear e3
          go_simp; exact hK _ _ (Grow.refl _) rfl
         ·intro w1 hg Ar seen
          have e5 := seen.de 5 113
          have e3 := seen.de 3 111
          refine does_on rfl (by kernel_rfl) e3 fun K Q' hK => ?_
          clear e3
          have hc := cell_later hg CX1.out
          go_simp; exact hK _ _ (Grow.refl _) rfl
         ·intro w1 hg Ar seen
          have e3 := seen.de 3 111
          have s6 := seen.sl 6 (.pointer (some ⟨B, 0, none⟩))
          refine does_on rfl (by kernel_rfl) e3 fun K Q' hK => ?_
          clear e3
          go_simp; exact hK _ _ (Grow.refl _) rfl
         ·intro w1 hg Ar seen
          have e7 := seen.de 7 115
          have e3 := seen.de 3 111
          refine does_on rfl (by kernel_rfl) e3 fun K Q' hK => ?_
          clear e3
          have hc := cell_later hg A0.out
          go_simp; exact hK _ _ (Grow.refl _) rfl
         ·intro w1 hg Ar seen
          have e6 := seen.de 6 114
          have e8 := seen.de 8 116
          have e3 := seen.de 3 111
          refine does_on rfl (by kernel_rfl) e3 fun K Q' hK => ?_
          clear e3
          go_simp; exact hK _ _ (Grow.refl _) rfl
         ·intro w1 hg Ar seen
          have e3 := seen.de 3 111
          have e9 := seen.de 9 117
          refine does_plain rfl fun K Q' hK => ?_
          go_simp; exact hK _ _ (Grow.refl _) rfl
         ·intro w1 hg Ar seen
          have e10 := seen.de 10 118
          refine does_plain rfl fun K Q' hK => ?_
          go_simp; exact hK _ _ (Grow.refl _) rfl
         ·intro w1 hg Ar seen
          have e11 := seen.de 11 119
          exact does_off rfl (by kernel_rfl) e11 ne_tf (Grow.refl _) rfl
         ·intro w1 hg Ar seen
          have e11 := seen.de 11 119
          exact does_off rfl (by kernel_rfl) e11 ne_tf (Grow.refl _) rfl
         ·intro w1 hg Ar seen
          have e11 := seen.de 11 119
          exact does_off rfl (by kernel_rfl) e11 ne_tf (Grow.refl _) rfl
         ·intro w1 hg Ar seen
          have e11 := seen.de 11 119
          exact does_off rfl (by kernel_rfl) e11 ne_tf (Grow.refl _) rfl
         ·intro w1 hg Ar seen
          have e11 := seen.de 11 119
          exact does_off rfl (by kernel_rfl) e11 ne_tf (Grow.refl _) rfl
         ·intro w1 hg Ar seen
          have e11 := seen.de 11 119
          exact does_off rfl (by kernel_rfl) e11 ne_tf (Grow.refl _) rfl
         ·intro w1 hg Ar seen
          have e11 := seen.de 11 119
          have e17 := seen.de 17 125
          refine does_plain rfl fun K Q' hK => ?_
          go_simp; exact hK _ _ (Grow.refl _) rfl
         ·intro w1 hg Ar seen
          have e18 := seen.de 18 126
          refine does_plain rfl fun K Q' hK => ?_
          go_simp; exact hK _ _ (Grow.refl _) rfl
         ·intro w1 hg Ar seen
          have e19 := seen.de 19 127
          exact does_off rfl (by kernel_rfl) e19 ne_tf (Grow.refl _) rfl
         ·intro w1 hg Ar seen
          have e19 := seen.de 19 127
          exact does_off rfl (by kernel_rfl) e19 ne_tf (Grow.refl _) rfl
         ·intro w1 hg Ar seen
          have e19 := seen.de 19 127
          exact does_off rfl (by kernel_rfl) e19 ne_tf (Grow.refl _) rfl
         ·intro w1 hg Ar seen
          have e19 := seen.de 19 127
          exact does_off rfl (by kernel_rfl) e19 ne_tf (Grow.refl _) rfl
         ·intro w1 hg Ar seen
          have e19 := seen.de 19 127
          have e23 := seen.de 23 131
          refine does_plain rfl fun K Q' hK => ?_
          go_simp; exact hK _ _ (Grow.refl _) rfl
         ·intro w1 hg Ar seen
          have e24 := seen.de 24 132
          refine does_plain rfl fun K Q' hK => ?_
          go_simp; exact hK _ _ (Grow.refl _) rfl
         ·intro w1 hg Ar seen
          have e25 := seen.de 25 133
          exact does_off rfl (by kernel_rfl) e25 ne_tf (Grow.refl _) rfl
         ·intro w1 hg Ar seen
          have e25 := seen.de 25 133
          exact does_off rfl (by kernel_rfl) e25 ne_tf (Grow.refl _) rfl
         ·intro w1 hg Ar seen
          have e25 := seen.de 25 133
          exact does_off rfl (by kernel_rfl) e25 ne_tf (Grow.refl _) rfl
         ·intro w1 hg Ar seen
          have e25 := seen.de 25 133
          exact does_off rfl (by kernel_rfl) e25 ne_tf (Grow.refl _) rfl
         ·intro w1 hg Ar seen
          have e25 := seen.de 25 133
          have e29 := seen.de 29 137
          refine does_plain rfl fun K Q' hK => ?_
          go_simp; exact hK _ _ (Grow.refl _) rfl
       intro w1 hg
       refine upon_w' (js := [0, 1, 2, 3, 4, 5, 6, 7, 8, 9, 10, 11, 12, 13, 14, 15, 16, 17, 18, 19, 20, 21, 22, 23, 24, 25, 26, 27, 28, 29, 30]) (by rfl) ?_
       refine upon_e (some 108) (upon_e (some 109) (upon_e (some 110) (upon_e (some 111) (upon_e (some 112) (upon_e (some 113) (upon_e (some 114) (upon_e (some 115) (upon_e (some 116) (upon_e (some 117) (upon_e (some 118) (upon_e (some 119) (upon_e (some 120) (upon_e (some 121) (upon_e (some 122) (upon_e (some 123) (upon_e (some 124) (upon_e (some 125) (upon_e (some 126) (upon_e (some 127) (upon_e (some 128) (upon_e (some 129) (upon_e (some 130) (upon_e (some 131) (upon_e (some 132) (upon_e (some 133) (upon_e (some 134) (upon_e (some 135) (upon_e (some 136) (upon_e (some 137) (upon_e (some 138) (upon_n ?_)))))))))))))))))))))))))))))))
       go_simp
       have HB' := hid (HB.out.trans (Below.mono hg HB.out.size))
       clear HB
       have HB := HB'
       clear HB'
       clear hg
       go_simp
       go_wp2_with fail
       go_ret
       exact ⟨by rw [HF.out]; rfl, HB.out⟩
      ·have q1z : ¬ ((x1.toNat : Int) < (LO : Int)) := by omega
       by_cases q2 : HI < x1.toNat
       ·have q2z : (HI : Int) < (x1.toNat : Int) := by omega
        have HF : Hid (ANS = false) := by
         show _ = _
         have h := HL3.out
         rw [if_pos (by omega)] at h
         exact h
        clear q2
        refine wp_region_each 31 [.eq (.slice (some ⟨b, off, none⟩) t.size t.size), .eq (.int .i64 (t.size : Int)), .eq (.bool false), .eq (.bool false), .eq (.slice (some ⟨b, off, none⟩) t.size t.size), .eq (.pointer (some ⟨b, off + 1, none⟩)), .eq (.int .u8 x1.toNat), .eq (.pointer (some ⟨B, 0, none⟩)), .eq (.int .u8 LO), .eq (.bool false), .eq (.bool false), .eq (.bool false), .eq (.pointer (some ⟨B, 1, none⟩)), .eq (.int .u8 HI), .eq (.slice (some ⟨b, off, none⟩) t.size t.size), .eq (.pointer (some ⟨b, off + 1, none⟩)), .eq (.int .u8 x1.toNat), .eq (.bool true), .eq (.bool true), .eq (.bool true), .eq undef, .eq undef, .eq undef, .eq undef, .eq (.bool true), .eq (.bool true), .eq undef, .eq undef, .eq undef, .eq undef, .eq (.bool true)] (by kernel_rfl) (by kernel_rfl) (by kernel_rfl) (by kernel_rfl) ?_ ?_
        ·all_goals
          refine each_5 ?_ ?_ ?_ ?_ ?_ (each_5 ?_ ?_ ?_ ?_ ?_ (each_5 ?_ ?_ ?_ ?_ ?_ (each_5 ?_ ?_ ?_ ?_ ?_ (each_5 ?_ ?_ ?_ ?_ ?_ (each_5 ?_ ?_ ?_ ?_ ?_ (each_c ?_ (each_n)))))))
          ·intro w1 hg Ar seen
           have s0 := seen.sl 0 (.slice (some ⟨b, off, none⟩) t.size t.size)
           refine does_plain rfl fun K Q' hK => ?_
           go_simp; exact hK _ _ (Grow.refl _) rfl
          ·intro w1 hg Ar seen
           have e0 := seen.de 0 108
           refine does_plain rfl fun K Q' hK => ?_
           go_simp; exact hK _ _ (Grow.refl _) rfl
          ·intro w1 hg Ar seen
           have e1 := seen.de 1 109
           refine does_plain rfl fun K Q' hK => ?_
           go_simp; exact hK _ _ (Grow.refl _) rfl
          ·intro w1 hg Ar seen
           have e2 := seen.de 2 110
           refine does_plain rfl fun K Q' hK => ?_
           go_simp; exact hK _ _ (Grow.refl _) rfl
          ·intro w1 hg Ar seen
           have e3 := seen.de 3 111
           have s0 := seen.sl 0 (.slice (some ⟨b, off, none⟩) t.size t.size)
           refine does_on rfl (by kernel_rfl) e3 fun K Q' hK => ?_
           clear e3
           go_simp; exact hK _ _ (Grow.refl _) rfl
          ·intro w1 hg Ar seen
           have e4 := seen.de 4 112
           have e3 := seen.de 3 111
           refine does_on rfl (by kernel_rfl) e3 fun K Q' hK => ?_
           clear e3
           go_simp; exact hK _ _ (Grow.refl _) rfl
          ·intro w1 hg Ar seen
           have e5 := seen.de 5 113
           have e3 := seen.de 3 111
           refine does_on rfl (by kernel_rfl) e3 fun K Q' hK => ?_
           clear e3
           have hc := cell_later hg CX1.out
           go_simp; exact hK _ _ (Grow.refl _) rfl
          ·intro w1 hg Ar seen
           have e3 := seen.de 3 111
           have s6 := seen.sl 6 (.pointer (some ⟨B, 0, none⟩))
           refine does_on rfl (by kernel_rfl) e3 fun K Q' hK => ?_
           clear e3
           go_simp; exact hK _ _ (Grow.refl _) rfl
          ·intro w1 hg Ar seen
           have e7 := seen.de 7 115
           have e3 := seen.de 3 111
           refine does_on rfl (by kernel_rfl) e3 fun K Q' hK => ?_
           clear e3
           have hc := cell_later hg A0.out
           go_simp; exact hK _ _ (Grow.refl _) rfl
          ·intro w1 hg Ar seen
           have e6 := seen.de 6 114
           have e8 := seen.de 8 116
           have e3 := seen.de 3 111
           refine does_on rfl (by kernel_rfl) e3 fun K Q' hK => ?_
           clear e3
           go_simp; exact hK _ _ (Grow.refl _) rfl
          ·intro w1 hg Ar seen
           have e3 := seen.de 3 111
           have e9 := seen.de 9 117
           refine does_plain rfl fun K Q' hK => ?_
           go_simp; exact hK _ _ (Grow.refl _) rfl
          ·intro w1 hg Ar seen
           have e10 := seen.de 10 118
           refine does_plain rfl fun K Q' hK => ?_
           go_simp; exact hK _ _ (Grow.refl _) rfl
          ·intro w1 hg Ar seen
           have e11 := seen.de 11 119
           have s6 := seen.sl 6 (.pointer (some ⟨B, 0, none⟩))
           refine does_on rfl (by kernel_rfl) e11 fun K Q' hK => ?_
           clear e11
           go_simp; exact hK _ _ (Grow.refl _) rfl
          ·intro w1 hg Ar seen
           have e12 := seen.de 12 120
           have e11 := seen.de 11 119
           refine does_on rfl (by kernel_rfl) e11 fun K Q' hK => ?_
           clear e11
           have hc := cell_later hg A1.out
           go_simp; exact hK _ _ (Grow.refl _) rfl
          ·intro w1 hg Ar seen
           have e11 := seen.de 11 119
           have s0 := seen.sl 0 (.slice (some ⟨b, off, none⟩) t.size t.size)
           refine does_on rfl (by kernel_rfl) e11 fun K Q' hK => ?_
           clear e11
           go_simp; exact hK _ _ (Grow.refl _) rfl
          ·intro w1 hg Ar seen
           have e14 := seen.de 14 122
           have e11 := seen.de 11 119
           refine does_on rfl (by kernel_rfl) e11 fun K Q' hK => ?_
           clear e11
           go_simp; exact hK _ _ (Grow.refl _) rfl
          ·intro w1 hg Ar seen
           have e15 := seen.de 15 123
           have e11 := seen.de 11 119
           refine does_on rfl (by kernel_rfl) e11 fun K Q' hK => ?_
           clear e11
           have hc := cell_later hg CX1.out
           go_simp; exact hK _ _ (Grow.refl _) rfl
          ·intro w1 hg Ar seen
           have e13 := seen.de 13 121
           have e16 := seen.de 16 124
           have e11 := seen.de 11 119
           refine does_on rfl (by kernel_rfl) e11 fun K Q' hK => ?_
           clear e11
           go_simp; exact hK _ _ (Grow.refl _) rfl
          ·intro w1 hg Ar seen
           have e11 := seen.de 11 119
           have e17 := seen.de 17 125
           refine does_plain rfl fun K Q' hK => ?_
           go_simp; exact hK _ _ (Grow.refl _) rfl
          ·intro w1 hg Ar seen
           have e18 := seen.de 18 126
           refine does_plain rfl fun K Q' hK => ?_
           go_simp; exact hK _ _ (Grow.refl _) rfl
          ·intro w1 hg Ar seen
           have e19 := seen.de 19 127
           exact does_off rfl (by kernel_rfl) e19 ne_tf (Grow.refl _) rfl
          ·intro w1 hg Ar seen
           have e19 := seen.de 19 127
           exact does_off rfl (by kernel_rfl) e19 ne_tf (Grow.refl _) rfl
          ·intro w1 hg Ar seen
           have e19 := seen.de 19 127
           exact does_off rfl (by kernel_rfl) e19 ne_tf (Grow.refl _) rfl
          ·intro w1 hg Ar seen
           have e19 := seen.de 19 127
           exact does_off rfl (by kernel_rfl) e19 ne_tf (Grow.refl _) rfl
          ·intro w1 hg Ar seen
           have e19 := seen.de 19 127
           have e23 := seen.de 23 131
           refine does_plain rfl fun K Q' hK => ?_
           go_simp; exact hK _ _ (Grow.refl _) rfl
          ·intro w1 hg Ar seen
           have e24 := seen.de 24 132
           refine does_plain rfl fun K Q' hK => ?_
           go_simp; exact hK _ _ (Grow.refl _) rfl
          ·intro w1 hg Ar seen
           have e25 := seen.de 25 133
           exact does_off rfl (by kernel_rfl) e25 ne_tf (Grow.refl _) rfl
          ·intro w1 hg Ar seen
           have e25 := seen.de 25 133
           exact does_off rfl (by kernel_rfl) e25 ne_tf (Grow.refl _) rfl
          ·intro w1 hg Ar seen
           have e25 := seen.de 25 133
           exact does_off rfl (by kernel_rfl) e25 ne_tf (Grow.refl _) rfl
          ·intro w1 hg Ar seen
           have e25 := seen.de 25 133
           exact does_off rfl (by kernel_rfl) e25 ne_tf (Grow.refl _) rfl
          ·intro w1 hg Ar seen
           have e25 := seen.de 25 133
           have e29 := seen.de 29 137
           refine does_plain rfl fun K Q' hK => ?_
           go_simp; exact hK _ _ (Grow.refl _) rfl
        intro w1 hg
        refine upon_w' (js := [0, 1, 2, 3, 4, 5, 6, 7, 8, 9, 10, 11, 12, 13, 14, 15, 16, 17, 18, 19, 20, 21, 22, 23, 24, 25, 26, 27, 28, 29, 30]) (by rfl) ?_
        refine upon_e (some 108) (upon_e (some 109) (upon_e (some 110) (upon_e (some 111) (upon_e (some 112) (upon_e (some 113) (upon_e (some 114) (upon_e (some 115) (upon_e (some 116) (upon_e (some 117) (upon_e (some 118) (upon_e (some 119) (upon_e (some 120) (upon_e (some 121) (upon_e (some 122) (upon_e (some 123) (upon_e (some 124) (upon_e (some 125) (upon_e (some 126) (upon_e (some 127) (upon_e (some 128) (upon_e (some 129) (upon_e (some 130) (upon_e (some 131) (upon_e (some 132) (upon_e (some 133) (upon_e (some 134) (upon_e (some 135) (upon_e (some 136) (upon_e (some 137) (upon_e (some 138) (upon_n ?_)))))))))))))))))))))))))))))))
        go_simp
        have HB' := hid (HB.out.trans (Below.mono hg HB.out.size))
        clear HB
        have HB := HB'
        clear HB'
        clear hg
        go_simp
        go_wp2_with fail
        go_ret
        exact ⟨by rw [HF.out]; rfl, HB.out⟩
       ·have q2z : ¬ ((HI : Int) < (x1.toNat : Int)) := by omega
        by_cases q3 : x2.toNat < 128
        ·have q3z : (x2.toNat : Int) < 128 := by omega
         have HF : Hid (ANS = false) := by
          show _ = _
          have h := HL3.out
          rw [if_pos (by omega)] at h
          exact h
         clear q3
         refine wp_region_each 31 [.eq (.slice (some ⟨b, off, none⟩) t.size t.size), .eq (.int .i64 (t.size : Int)), .eq (.bool false), .eq (.bool false), .eq (.slice (some ⟨b, off, none⟩) t.size t.size), .eq (.pointer (some ⟨b, off + 1, none⟩)), .eq (.int .u8 x1.toNat), .eq (.pointer (some ⟨B, 0, none⟩)), .eq (.int .u8 LO), .eq (.bool false), .eq (.bool false), .eq (.bool false), .eq (.pointer (some ⟨B, 1, none⟩)), .eq (.int .u8 HI), .eq (.slice (some ⟨b, off, none⟩) t.size t.size), .eq (.pointer (some ⟨b, off + 1, none⟩)), .eq (.int .u8 x1.toNat), .eq (.bool false), .eq (.bool false), .eq (.bool false), .eq (.slice (some ⟨b, off, none⟩) t.size t.size), .eq (.pointer (some ⟨b, off + 2, none⟩)), .eq (.int .u8 x2.toNat), .eq (.bool true), .eq (.bool true), .eq (.bool true), .eq undef, .eq undef, .eq undef, .eq undef, .eq (.bool true)] (by kernel_rfl) (by kernel_rfl) (by kernel_rfl) (by kernel_rfl) ?_ ?_
         ·all_goals
           refine each_5 ?_ ?_ ?_ ?_ ?_ (each_5 ?_ ?_ ?_ ?_ ?_ (each_5 ?_ ?_ ?_ ?_ ?_ (each_5 ?_ ?_ ?_ ?_ ?_ (each_5 ?_ ?_ ?_ ?_ ?_ (each_5 ?_ ?_ ?_ ?_ ?_ (each_c ?_ (each_n)))))))
           ·intro w1 hg Ar seen
            have s0 := seen.sl 0 (.slice (some ⟨b, off, none⟩) t.size t.size)
            refine does_plain rfl fun K Q' hK => ?_
            go_simp; exact hK _ _ (Grow.refl _) rfl
           ·intro w1 hg Ar seen
            have e0 := seen.de 0 108
            refine does_plain rfl fun K Q' hK => ?_
            go_simp; exact hK _ _ (Grow.refl _) rfl
           ·intro w1 hg Ar seen
            have e1 := seen.de 1 109
            refine does_plain rfl fun K Q' hK => ?_
            go_simp; exact hK _ _ (Grow.refl _) rfl
           ·intro w1 hg Ar seen
            have e2 := seen.de 2 110
            refine does_plain rfl fun K Q' hK => ?_
            go_simp; exact hK _ _ (Grow.refl _) rfl
           ·intro w1 hg Ar seen
            have e3 := seen.de 3 111
            have s0 := seen.sl 0 (.slice (some ⟨b, off, none⟩) t.size t.size)
            refine does_on rfl (by kernel_rfl) e3 fun K Q' hK => ?_
            clear e3
            go_simp; exact hK _ _ (Grow.refl _) rfl
           ·intro w1 hg Ar seen
            have e4 := seen.de 4 112
            have e3 := seen.de 3 111
            refine does_on rfl (by kernel_rfl) e3 fun K Q' hK => ?_
            clear e3
            go_simp; exact hK _ _ (Grow.refl _) rfl
           ·intro w1 hg Ar seen
            have e5 := seen.de 5 113
            have e3 := seen.de 3 111
            refine does_on rfl (by kernel_rfl) e3 fun K Q' hK => ?_
            clear e3
            have hc := cell_later hg CX1.out
            go_simp; exact hK _ _ (Grow.refl _) rfl
           ·intro w1 hg Ar seen
            have e3 := seen.de 3 111
            have s6 := seen.sl 6 (.pointer (some ⟨B, 0, none⟩))
            refine does_on rfl (by kernel_rfl) e3 fun K Q' hK => ?_
            clear e3
            go_simp; exact hK _ _ (Grow.refl _) rfl
           ·intro w1 hg Ar seen
            have e7 := seen.de 7 115
            have e3 := seen.de 3 111
            refine does_on rfl (by kernel_rfl) e3 fun K Q' hK => ?_
            clear e3
            have hc := cell_later hg A0.out
            go_simp; exact hK _ _ (Grow.refl _) rfl
           ·intro w1 hg Ar seen
            have e6 := seen.de 6 114
            have e8 := seen.de 8 116
            have e3 := seen.de 3 111
            refine does_on rfl (by kernel_rfl) e3 fun K Q' hK => ?_
            clear e3
            go_simp; exact hK _ _ (Grow.refl _) rfl
           ·intro w1 hg Ar seen
            have e3 := seen.de 3 111
            have e9 := seen.de 9 117
            refine does_plain rfl fun K Q' hK => ?_
            go_simp; exact hK _ _ (Grow.refl _) rfl
           ·intro w1 hg Ar seen
            have e10 := seen.de 10 118
            refine does_plain rfl fun K Q' hK => ?_
            go_simp; exact hK _ _ (Grow.refl _) rfl
           ·intro w1 hg Ar seen
            have e11 := seen.de 11 119
            have s6 := seen.sl 6 (.pointer (some ⟨B, 0, none⟩))
            refine does_on rfl (by kernel_rfl) e11 fun K Q' hK => ?_
            clear e11
            go_simp; exact hK _ _ (Grow.refl _) rfl
           ·intro w1 hg Ar seen
            have e12 := seen.de 12 120
            have e11 := seen.de 11 119
            refine does_on rfl (by kernel_rfl) e11 fun K Q' hK => ?_
            clear e11
            have hc := cell_later hg A1.out
            go_simp; exact hK _ _ (Grow.refl _) rfl
           ·intro w1 hg Ar seen
            have e11 := seen.de 11 119
            have s0 := seen.sl 0 (.slice (some ⟨b, off, none⟩) t.size t.size)
            refine does_on rfl (by kernel_rfl) e11 fun K Q' hK => ?_
            clear e11
            go_simp; exact hK _ _ (Grow.refl _) rfl
           ·intro w1 hg Ar seen
            have e14 := seen.de 14 122
            have e11 := seen.de 11 119
            refine does_on rfl (by kernel_rfl) e11 fun K Q' hK => ?_
            clear e11
            go_simp; exact hK _ _ (Grow.refl _) rfl
           ·intro w1 hg Ar seen
            have e15 := seen.de 15 123
            have e11 := seen.de 11 119
            refine does_on rfl (by kernel_rfl) e11 fun K Q' hK => ?_
            clear e11
            have hc := cell_later hg CX1.out
            go_simp; exact hK _ _ (Grow.refl _) rfl
           ·intro w1 hg Ar seen
            have e13 := seen.de 13 121
            have e16 := seen.de 16 124
            have e11 := seen.de 11 119
            refine does_on rfl (by kernel_rfl) e11 fun K Q' hK => ?_
            clear e11
            go_simp; exact hK _ _ (Grow.refl _) rfl
           ·intro w1 hg Ar seen
            have e11 := seen.de 11 119
            have e17 := seen.de 17 125
            refine does_plain rfl fun K Q' hK => ?_
            go_simp; exact hK _ _ (Grow.refl _) rfl
           ·intro w1 hg Ar seen
            have e18 := seen.de 18 126
            refine does_plain rfl fun K Q' hK => ?_
            go_simp; exact hK _ _ (Grow.refl _) rfl
           ·intro w1 hg Ar seen
            have e19 := seen.de 19 127
            have s0 := seen.sl 0 (.slice (some ⟨b, off, none⟩) t.size t.size)
            refine does_on rfl (by kernel_rfl) e19 fun K Q' hK => ?_
            clear e19
            go_simp; exact hK _ _ (Grow.refl _) rfl
           ·intro w1 hg Ar seen
            have e20 := seen.de 20 128
            have e19 := seen.de 19 127
            refine does_on rfl (by kernel_rfl) e19 fun K Q' hK => ?_
            clear e19
            go_simp; exact hK _ _ (Grow.refl _) rfl
           ·intro w1 hg Ar seen
            have e21 := seen.de 21 129
            have e19 := seen.de 19 127
            refine does_on rfl (by kernel_rfl) e19 fun K Q' hK => ?_
            clear e19
            have hc := cell_later hg CX2.out
            go_simp; exact hK _ _ (Grow.refl _) rfl
           ·intro w1 hg Ar seen
            have e22 := seen.de 22 130
            have e19 := seen.de 19 127
            refine does_on rfl (by kernel_rfl) e19 fun K Q' hK => ?_
            clear e19
            go_simp; exact hK _ _ (Grow.refl _) rfl
           ·intro w1 hg Ar seen
            have e19 := seen.de 19 127
            have e23 := seen.de 23 131
            refine does_plain rfl fun K Q' hK => ?_
            go_simp; exact hK _ _ (Grow.refl _) rfl
           ·intro w1 hg Ar seen
            have e24 := seen.de 24 132
            refine does_plain rfl fun K Q' hK => ?_
            go_simp; exact hK _ _ (Grow.refl _) rfl
           ·intro w1 hg Ar seen
            have e25 := seen.de 25 133
            exact does_off rfl (by kernel_rfl) e25 ne_tf (Grow.refl _) rfl
           ·intro w1 hg Ar seen
            have e25 := seen.de 25 133
            exact does_off rfl (by kernel_rfl) e25 ne_tf (Grow.refl _) rfl
           ·intro w1 hg Ar seen
            have e25 := seen.de 25 133
            exact does_off rfl (by kernel_rfl) e25 ne_tf (Grow.refl _) rfl
           ·intro w1 hg Ar seen
            have e25 := seen.de 25 133
            exact does_off rfl (by kernel_rfl) e25 ne_tf (Grow.refl _) rfl
           ·intro w1 hg Ar seen
            have e25 := seen.de 25 133
            have e29 := seen.de 29 137
            refine does_plain rfl fun K Q' hK => ?_
            go_simp; exact hK _ _ (Grow.refl _) rfl
         intro w1 hg
         refine upon_w' (js := [0, 1, 2, 3, 4, 5, 6, 7, 8, 9, 10, 11, 12, 13, 14, 15, 16, 17, 18, 19, 20, 21, 22, 23, 24, 25, 26, 27, 28, 29, 30]) (by rfl) ?_
         refine upon_e (some 108) (upon_e (some 109) (upon_e (some 110) (upon_e (some 111) (upon_e (some 112) (upon_e (some 113) (upon_e (some 114) (upon_e (some 115) (upon_e (some 116) (upon_e (some 117) (upon_e (some 118) (upon_e (some 119) (upon_e (some 120) (upon_e (some 121) (upon_e (some 122) (upon_e (some 123) (upon_e (some 124) (upon_e (some 125) (upon_e (some 126) (upon_e (some 127) (upon_e (some 128) (upon_e (some 129) (upon_e (some 130) (upon_e (some 131) (upon_e (some 132) (upon_e (some 133) (upon_e (some 134) (upon_e (some 135) (upon_e (some 136) (upon_e (some 137) (upon_e (some 138) (upon_n ?_)))))))))))))))))))))))))))))))
         go_simp
         have HB' := hid (HB.out.trans (Below.mono hg HB.out.size))
         clear HB
         have HB := HB'
         clear HB'
         clear hg
         go_simp
         go_wp2_with fail
         go_ret
         exact ⟨by rw [HF.out]; rfl, HB.out⟩
        ·have q3z : ¬ ((x2.toNat : Int) < 128) := by omega
         by_cases q4 : 191 < x2.toNat
         ·have q4z : (191 : Int) < (x2.toNat : Int) := by omega
          have HF : Hid (ANS = false) := by
           show _ = _
           have h := HL3.out
           rw [if_pos (by omega)] at h
           exact h
          clear q4
          refine wp_region_each 31 [.eq (.slice (some ⟨b, off, none⟩) t.size t.size), .eq (.int .i64 (t.size : Int)), .eq (.bool false), .eq (.bool false), .eq (.slice (some ⟨b, off, none⟩) t.size t.size), .eq (.pointer (some ⟨b, off + 1, none⟩)), .eq (.int .u8 x1.toNat), .eq (.pointer (some ⟨B, 0, none⟩)), .eq (.int .u8 LO), .eq (.bool false), .eq (.bool false), .eq (.bool false), .eq (.pointer (some ⟨B, 1, none⟩)), .eq (.int .u8 HI), .eq (.slice (some ⟨b, off, none⟩) t.size t.size), .eq (.pointer (some ⟨b, off + 1, none⟩)), .eq (.int .u8 x1.toNat), .eq (.bool false), .eq (.bool false), .eq (.bool false), .eq (.slice (some ⟨b, off, none⟩) t.size t.size), .eq (.pointer (some ⟨b, off + 2, none⟩)), .eq (.int .u8 x2.toNat), .eq (.bool false), .eq (.bool false), .eq (.bool false), .eq (.slice (some ⟨b, off, none⟩) t.size t.size), .eq (.pointer (some ⟨b, off + 2, none⟩)), .eq (.int .u8 x2.toNat), .eq (.bool true), .eq (.bool true)] (by kernel_rfl) (by kernel_rfl) (by kernel_rfl) (by kernel_rfl) ?_ ?_
          ·all_goals
            refine each_5 ?_ ?_ ?_ ?_ ?_ (each_5 ?_ ?_ ?_ ?_ ?_ (each_5 ?_ ?_ ?_ ?_ ?_ (each_5 ?_ ?_ ?_ ?_ ?_ (each_5 ?_ ?_ ?_ ?_ ?_ (each_5 ?_ ?_ ?_ ?_ ?_ (each_c ?_ (each_n)))))))
            ·intro w1 hg Ar seen
             have s0 := seen.sl 0 (.slice (some ⟨b, off, none⟩) t.size t.size)
             refine does_plain rfl fun K Q' hK => ?_
             go_simp; exact hK _ _ (Grow.refl _) rfl
            ·intro w1 hg Ar seen
             have e0 := seen.de 0 108
             refine does_plain rfl fun K Q' hK => ?_
             go_simp; exact hK _ _ (Grow.refl _) rfl
            ·intro w1 hg Ar seen
             have e1 := seen.de 1 109
             refine does_plain rfl fun K Q' hK => ?_
             go_simp; exact hK _ _ (Grow.refl _) rfl
            ·intro w1 hg Ar seen
             have e2 := seen.de 2 110
             refine does_plain rfl fun K Q' hK => ?_
             go_simp; exact hK _ _ (Grow.refl _) rfl
            ·intro w1 hg Ar seen
             have e3 := seen.de 3 111
             have s0 := seen.sl 0 (.slice (some ⟨b, off, none⟩) t.size t.size)
             refine does_on rfl (by kernel_rfl) e3 fun K Q' hK => ?_
             clear e3
             go_simp; exact hK _ _ (Grow.refl _) rfl
            ·intro w1 hg Ar seen
             have e4 := seen.de 4 112
             have e3 := seen.de 3 111
             refine does_on rfl (by kernel_rfl) e3 fun K Q' hK => ?_
             clear e3
             go_simp; exact hK _ _ (Grow.refl _) rfl
            ·intro w1 hg Ar seen
             have e5 := seen.de 5 113
             have e3 := seen.de 3 111
             refine does_on rfl (by kernel_rfl) e3 fun K Q' hK => ?_
             clear e3
             have hc := cell_later hg CX1.out
             go_simp; exact hK _ _ (Grow.refl _) rfl
            ·intro w1 hg Ar seen
             have e3 := seen.de 3 111
             have s6 := seen.sl 6 (.pointer (some ⟨B, 0, none⟩))
             refine does_on rfl (by kernel_rfl) e3 fun K Q' hK => ?_
             clear e3
             go_simp; exact hK _ _ (Grow.refl _) rfl
            ·intro w1 hg Ar seen
             have e7 := seen.de 7 115
             have e3 := seen.de 3 111
             refine does_on rfl (by kernel_rfl) e3 fun K Q' hK => ?_
             clear e3
             have hc := cell_later hg A0.out
             go_simp; exact hK _ _ (Grow.refl _) rfl
            ·intro w1 hg Ar seen
             have e6 := seen.de 6 114
             have e8 := seen.de 8 116
             have e3 := seen.de 3 111
             refine does_on rfl (by kernel_rfl) e3 fun K Q' hK => ?_
             clear e3
             go_simp; exact hK _ _ (Grow.refl _) rfl
            ·intro w1 hg Ar seen
             have e3 := seen.de 3 111
             have e9 := seen.de 9 117
             refine does_plain rfl fun K Q' hK => ?_
             go_simp; exact hK _ _ (Grow.refl _) rfl
            ·intro w1 hg Ar seen
             have e10 := seen.de 10 118
             refine does_plain rfl fun K Q' hK => ?_
             go_simp; exact hK _ _ (Grow.refl _) rfl
            ·intro w1 hg Ar seen
             have e11 := seen.de 11 119
             have s6 := seen.sl 6 (.pointer (some ⟨B, 0, none⟩))
             refine does_on rfl (by kernel_rfl) e11 fun K Q' hK => ?_
             clear e11
             go_simp; exact hK _ _ (Grow.refl _) rfl
            ·intro w1 hg Ar seen
             have e12 := seen.de 12 120
             have e11 := seen.de 11 119
             refine does_on rfl (by kernel_rfl) e11 fun K Q' hK => ?_
             clear e11
             have hc := cell_later hg A1.out
             go_simp; exact hK _ _ (Grow.refl _) rfl
            ·intro w1 hg Ar seen
             have e11 := seen.de 11 119
             have s0 := seen.sl 0 (.slice (some ⟨b, off, none⟩) t.size t.size)
             refine does_on rfl (by kernel_rfl) e11 fun K Q' hK => ?_
             clear e11
             go_simp; exact hK _ _ (Grow.refl _) rfl
            ·intro w1 hg Ar seen
             have e14 := seen.de 14 122
             have e11 := seen.de 11 119
             refine does_on rfl (by kernel_rfl) e11 fun K Q' hK => ?_
             clear e11
             go_simp; exact hK _ _ (Grow.refl _) rfl
            ·intro w1 hg Ar seen
             have e15 := seen.de 15 123
             have e11 := seen.de 11 119
             refine does_on rfl (by kernel_rfl) e11 fun K Q' hK => ?_
             clear e11
             have hc := cell_later hg CX1.out
             go_simp; exact hK _ _ (Grow.refl _) rfl
            ·intro w1 hg Ar seen
             have e13 := seen.de 13 121
             have e16 := seen.de 16 124
             have e11 := seen.de 11 119
             refine does_on rfl (by kernel_rfl) e11 fun K Q' hK => ?_
             clear e11
             go_simp; exact hK _ _ (Grow.refl _) rfl
            ·intro w1 hg Ar seen
             have e11 := seen.de 11 119
             have e17 := seen.de 17 125
             refine does_plain rfl fun K Q' hK => ?_
             go_simp; exact hK _ _ (Grow.refl _) rfl
            ·intro w1 hg Ar seen
             have e18 := seen.de 18 126
             refine does_plain rfl fun K Q' hK => ?_
             go_simp; exact hK _ _ (Grow.refl _) rfl
            ·intro w1 hg Ar seen
             have e19 := seen.de 19 127
             have s0 := seen.sl 0 (.slice (some ⟨b, off, none⟩) t.size t.size)
             refine does_on rfl (by kernel_rfl) e19 fun K Q' hK => ?_
             clear e19
             go_simp; exact hK _ _ (Grow.refl _) rfl
            ·intro w1 hg Ar seen
             have e20 := seen.de 20 128
             have e19 := seen.de 19 127
             refine does_on rfl (by kernel_rfl) e19 fun K Q' hK => ?_
             clear e19
             go_simp; exact hK _ _ (Grow.refl _) rfl
            ·intro w1 hg Ar seen
             have e21 := seen.de 21 129
             have e19 := seen.de 19 127
             refine does_on rfl (by kernel_rfl) e19 fun K Q' hK => ?_
             clear e19
             have hc := cell_later hg CX2.out
             go_simp; exact hK _ _ (Grow.refl _) rfl
            ·intro w1 hg Ar seen
             have e22 := seen.de 22 130
             have e19 := seen.de 19 127
             refine does_on rfl (by kernel_rfl) e19 fun K Q' hK => ?_
             clear e19
             go_simp; exact hK _ _ (Grow.refl _) rfl
            ·intro w1 hg Ar seen
             have e19 := seen.de 19 127
             have e23 := seen.de 23 131
             refine does_plain rfl fun K Q' hK => ?_
             go_simp; exact hK _ _ (Grow.refl _) rfl
            ·intro w1 hg Ar seen
             have e24 := seen.de 24 132
             refine does_plain rfl fun K Q' hK => ?_
             go_simp; exact hK _ _ (Grow.refl _) rfl
            ·intro w1 hg Ar seen
             have e25 := seen.de 25 133
             have s0 := seen.sl 0 (.slice (some ⟨b, off, none⟩) t.size t.size)
             refine does_on rfl (by kernel_rfl) e25 fun K Q' hK => ?_
             clear e25
             go_simp; exact hK _ _ (Grow.refl _) rfl
            ·intro w1 hg Ar seen
             have e26 := seen.de 26 134
             have e25 := seen.de 25 133
             refine does_on rfl (by kernel_rfl) e25 fun K Q' hK => ?_
             clear e25
             go_simp; exact hK _ _ (Grow.refl _) rfl
            ·intro w1 hg Ar seen
             have e27 := seen.de 27 135
             have e25 := seen.de 25 133
             refine does_on rfl (by kernel_rfl) e25 fun K Q' hK => ?_
             clear e25
             have hc := cell_later hg CX2.out
             go_simp; exact hK _ _ (Grow.refl _) rfl
            ·intro w1 hg Ar seen
             have e28 := seen.de 28 136
             have e25 := seen.de 25 133
             refine does_on rfl (by kernel_rfl) e25 fun K Q' hK => ?_
             clear e25
             go_simp; exact hK _ _ (Grow.refl _) rfl
            ·intro w1 hg Ar seen
             have e25 := seen.de 25 133
             have e29 := seen.de 29 137
             refine does_plain rfl fun K Q' hK => ?_
             go_simp; exact hK _ _ (Grow.refl _) rfl
          intro w1 hg
          refine upon_w' (js := [0, 1, 2, 3, 4, 5, 6, 7, 8, 9, 10, 11, 12, 13, 14, 15, 16, 17, 18, 19, 20, 21, 22, 23, 24, 25, 26, 27, 28, 29, 30]) (by rfl) ?_
          refine upon_e (some 108) (upon_e (some 109) (upon_e (some 110) (upon_e (some 111) (upon_e (some 112) (upon_e (some 113) (upon_e (some 114) (upon_e (some 115) (upon_e (some 116) (upon_e (some 117) (upon_e (some 118) (upon_e (some 119) (upon_e (some 120) (upon_e (some 121) (upon_e (some 122) (upon_e (some 123) (upon_e (some 124) (upon_e (some 125) (upon_e (some 126) (upon_e (some 127) (upon_e (some 128) (upon_e (some 129) (upon_e (some 130) (upon_e (some 131) (upon_e (some 132) (upon_e (some 133) (upon_e (some 134) (upon_e (some 135) (upon_e (some 136) (upon_e (some 137) (upon_e (some 138) (upon_n ?_)))))))))))))))))))))))))))))))
          go_simp
          have HB' := hid (HB.out.trans (Below.mono hg HB.out.size))
          clear HB
          have HB := HB'
          clear HB'
          clear hg
          go_simp
          go_wp2_with fail
          go_ret
          exact ⟨by rw [HF.out]; rfl, HB.out⟩
         ·have q4z : ¬ ((191 : Int) < (x2.toNat : Int)) := by omega
          have HF : Hid (ANS = Lib.validD (t.data.toList.drop 3)) := by
           show _ = _
           have h := HL3.out
           rw [if_neg (by omega)] at h
           exact h
          refine wp_region_each 31 [.eq (.slice (some ⟨b, off, none⟩) t.size t.size), .eq (.int .i64 (t.size : Int)), .eq (.bool false), .eq (.bool false), .eq (.slice (some ⟨b, off, none⟩) t.size t.size), .eq (.pointer (some ⟨b, off + 1, none⟩)), .eq (.int .u8 x1.toNat), .eq (.pointer (some ⟨B, 0, none⟩)), .eq (.int .u8 LO), .eq (.bool false), .eq (.bool false), .eq (.bool false), .eq (.pointer (some ⟨B, 1, none⟩)), .eq (.int .u8 HI), .eq (.slice (some ⟨b, off, none⟩) t.size t.size), .eq (.pointer (some ⟨b, off + 1, none⟩)), .eq (.int .u8 x1.toNat), .eq (.bool false), .eq (.bool false), .eq (.bool false), .eq (.slice (some ⟨b, off, none⟩) t.size t.size), .eq (.pointer (some ⟨b, off + 2, none⟩)), .eq (.int .u8 x2.toNat), .eq (.bool false), .eq (.bool false), .eq (.bool false), .eq (.slice (some ⟨b, off, none⟩) t.size t.size), .eq (.pointer (some ⟨b, off + 2, none⟩)), .eq (.int .u8 x2.toNat), .eq (.bool false), .eq (.bool false)] (by kernel_rfl) (by kernel_rfl) (by kernel_rfl) (by kernel_rfl) ?_ ?_
          ·all_goals
            refine each_5 ?_ ?_ ?_ ?_ ?_ (each_5 ?_ ?_ ?_ ?_ ?_ (each_5 ?_ ?_ ?_ ?_ ?_ (each_5 ?_ ?_ ?_ ?_ ?_ (each_5 ?_ ?_ ?_ ?_ ?_ (each_5 ?_ ?_ ?_ ?_ ?_ (each_c ?_ (each_n)))))))
            ·intro w1 hg Ar seen
             have s0 := seen.sl 0 (.slice (some ⟨b, off, none⟩) t.size t.size)
             refine does_plain rfl fun K Q' hK => ?_
             go_simp; exact hK _ _ (Grow.refl _) rfl
            ·intro w1 hg Ar seen
             have e0 := seen.de 0 108
             refine does_plain rfl fun K Q' hK => ?_
             go_simp; exact hK _ _ (Grow.refl _) rfl
            ·intro w1 hg Ar seen
             have e1 := seen.de 1 109
             refine does_plain rfl fun K Q' hK => ?_
             go_simp; exact hK _ _ (Grow.refl _) rfl
            ·intro w1 hg Ar seen
             have e2 := seen.de 2 110
             refine does_plain rfl fun K Q' hK => ?_
             go_simp; exact hK _ _ (Grow.refl _) rfl
            ·intro w1 hg Ar seen
             have e3 := seen.de 3 111
             have s0 := seen.sl 0 (.slice (some ⟨b, off, none⟩) t.size t.size)
             refine does_on rfl (by kernel_rfl) e3 fun K Q' hK => ?_
             clear e3
             go_simp; exact hK _ _ (Grow.refl _) rfl
            ·intro w1 hg Ar seen
             have e4 := seen.de 4 112
             have e3 := seen.de 3 111
             refine does_on rfl (by kernel_rfl) e3 fun K Q' hK => ?_
             clear e3
             go_simp; exact hK _ _ (Grow.refl _) rfl
            ·intro w1 hg Ar seen
             have e5 := seen.de 5 113
             have e3 := seen.de 3 111
             refine does_on rfl (by kernel_rfl) e3 fun K Q' hK => ?_
             clear e3
             have hc := cell_later hg CX1.out
             go_simp; exact hK _ _ (Grow.refl _) rfl
            ·intro w1 hg Ar seen
             have e3 := seen.de 3 111
             have s6 := seen.sl 6 (.pointer (some ⟨B, 0, none⟩))
             refine does_on rfl (by kernel_rfl) e3 fun K Q' hK => ?_
             clear e3
             go_simp; exact hK _ _ (Grow.refl _) rfl
            ·intro w1 hg Ar seen
             have e7 := seen.de 7 115
             have e3 := seen.de 3 111
             refine does_on rfl (by kernel_rfl) e3 fun K Q' hK => ?_
             clear e3
             have hc := cell_later hg A0.out
             go_simp; exact hK _ _ (Grow.refl _) rfl
            ·intro w1 hg Ar seen
             have e6 := seen.de 6 114
             have e8 := seen.de 8 116
             have e3 := seen.de 3 111
             refine does_on rfl (by kernel_rfl) e3 fun K Q' hK => ?_
             clear e3
             go_simp; exact hK _ _ (Grow.refl _) rfl
            ·intro w1 hg Ar seen
             have e3 := seen.de 3 111
             have e9 := seen.de 9 117
             refine does_plain rfl fun K Q' hK => ?_
             go_simp; exact hK _ _ (Grow.refl _) rfl
            ·intro w1 hg Ar seen
             have e10 := seen.de 10 118
             refine does_plain rfl fun K Q' hK => ?_
             go_simp; exact hK _ _ (Grow.refl _) rfl
            ·intro w1 hg Ar seen
             have e11 := seen.de 11 119
             have s6 := seen.sl 6 (.pointer (some ⟨B, 0, none⟩))
             refine does_on rfl (by kernel_rfl) e11 fun K Q' hK => ?_
             clear e11
             go_simp; exact hK _ _ (Grow.refl _) rfl
            ·intro w1 hg Ar seen
             have e12 := seen.de 12 120
             have e11 := seen.de 11 119
             refine does_on rfl (by kernel_rfl) e11 fun K Q' hK => ?_
             clear e11
             have hc := cell_later hg A1.out
             go_simp; exact hK _ _ (Grow.refl _) rfl
            ·intro w1 hg Ar seen
             have e11 := seen.de 11 119
             have s0 := seen.sl 0 (.slice (some ⟨b, off, none⟩) t.size t.size)
             refine does_on rfl (by kernel_rfl) e11 fun K Q' hK => ?_
             clear e11
             go_simp; exact hK _ _ (Grow.refl _) rfl
            ·intro w1 hg Ar seen
             have e14 := seen.de 14 122
             have e11 := seen.de 11 119
             refine does_on rfl (by kernel_rfl) e11 fun K Q' hK => ?_
             clear e11
             go_simp; exact hK _ _ (Grow.refl _) rfl
            ·intro w1 hg Ar seen
             have e15 := seen.de 15 123
             have e11 := seen.de 11 119
             refine does_on rfl (by kernel_rfl) e11 fun K Q' hK => ?_
             clear e11
             have hc := cell_later hg CX1.out
             go_simp; exact hK _ _ (Grow.refl _) rfl
            ·intro w1 hg Ar seen
             have e13 := seen.de 13 121
             have e16 := seen.de 16 124
             have e11 := seen.de 11 119
             refine does_on rfl (by kernel_rfl) e11 fun K Q' hK => ?_
             clear e11
             go_simp; exact hK _ _ (Grow.refl _) rfl
            ·intro w1 hg Ar seen
             have e11 := seen.de 11 119
             have e17 := seen.de 17 125
             refine does_plain rfl fun K Q' hK => ?_
             go_simp; exact hK _ _ (Grow.refl _) rfl
            ·intro w1 hg Ar seen
             have e18 := seen.de 18 126
             refine does_plain rfl fun K Q' hK => ?_
             go_simp; exact hK _ _ (Grow.refl _) rfl
            ·intro w1 hg Ar seen
             have e19 := seen.de 19 127
             have s0 := seen.sl 0 (.slice (some ⟨b, off, none⟩) t.size t.size)
             refine does_on rfl (by kernel_rfl) e19 fun K Q' hK => ?_
             clear e19
             go_simp; exact hK _ _ (Grow.refl _) rfl
            ·intro w1 hg Ar seen
             have e20 := seen.de 20 128
             have e19 := seen.de 19 127
             refine does_on rfl (by kernel_rfl) e19 fun K Q' hK => ?_
             clear e19
             go_simp; exact hK _ _ (Grow.refl _) rfl
            ·intro w1 hg Ar seen
             have e21 := seen.de 21 129
             have e19 := seen.de 19 127
             refine does_on rfl (by kernel_rfl) e19 fun K Q' hK => ?_
             clear e19
             have hc := cell_later hg CX2.out
             go_simp; exact hK _ _ (Grow.refl _) rfl
            ·intro w1 hg Ar seen
             have e22 := seen.de 22 130
             have e19 := seen.de 19 127
             refine does_on rfl (by kernel_rfl) e19 fun K Q' hK => ?_
             clear e19
             go_simp; exact hK _ _ (Grow.refl _) rfl
            ·intro w1 hg Ar seen
             have e19 := seen.de 19 127
             have e23 := seen.de 23 131
             refine does_plain rfl fun K Q' hK => ?_
             go_simp; exact hK _ _ (Grow.refl _) rfl
            ·intro w1 hg Ar seen
             have e24 := seen.de 24 132
             refine does_plain rfl fun K Q' hK => ?_
             go_simp; exact hK _ _ (Grow.refl _) rfl
            ·intro w1 hg Ar seen
             have e25 := seen.de 25 133
             have s0 := seen.sl 0 (.slice (some ⟨b, off, none⟩) t.size t.size)
             refine does_on rfl (by kernel_rfl) e25 fun K Q' hK => ?_
             clear e25
             go_simp; exact hK _ _ (Grow.refl _) rfl
            ·intro w1 hg Ar seen
             have e26 := seen.de 26 134
             have e25 := seen.de 25 133
             refine does_on rfl (by kernel_rfl) e25 fun K Q' hK => ?_
             clear e25
             go_simp; exact hK _ _ (Grow.refl _) rfl
            ·intro w1 hg Ar seen
             have e27 := seen.de 27 135
             have e25 := seen.de 25 133
             refine does_on rfl (by kernel_rfl) e25 fun K Q' hK => ?_
             clear e25
             have hc := cell_later hg CX2.out
             go_simp; exact hK _ _ (Grow.refl _) rfl
            ·intro w1 hg Ar seen
             have e28 := seen.de 28 136
             have e25 := seen.de 25 133
             refine does_on rfl (by kernel_rfl) e25 fun K Q' hK => ?_
             clear e25
             go_simp; exact hK _ _ (Grow.refl _) rfl
            ·intro w1 hg Ar seen
             have e25 := seen.de 25 133
             have e29 := seen.de 29 137
             refine does_plain rfl fun K Q' hK => ?_
             go_simp; exact hK _ _ (Grow.refl _) rfl
          intro w1 hg
          refine upon_w' (js := [0, 1, 2, 3, 4, 5, 6, 7, 8, 9, 10, 11, 12, 13, 14, 15, 16, 17, 18, 19, 20, 21, 22, 23, 24, 25, 26, 27, 28, 29, 30]) (by rfl) ?_
          refine upon_e (some 108) (upon_e (some 109) (upon_e (some 110) (upon_e (some 111) (upon_e (some 112) (upon_e (some 113) (upon_e (some 114) (upon_e (some 115) (upon_e (some 116) (upon_e (some 117) (upon_e (some 118) (upon_e (some 119) (upon_e (some 120) (upon_e (some 121) (upon_e (some 122) (upon_e (some 123) (upon_e (some 124) (upon_e (some 125) (upon_e (some 126) (upon_e (some 127) (upon_e (some 128) (upon_e (some 129) (upon_e (some 130) (upon_e (some 131) (upon_e (some 132) (upon_e (some 133) (upon_e (some 134) (upon_e (some 135) (upon_e (some 136) (upon_e (some 137) (upon_e (some 138) (upon_n ?_)))))))))))))))))))))))))))))))
          go_simp
          have HB' := hid (HB.out.trans (Below.mono hg HB.out.size))
          clear HB
          have HB := HB'
          clear HB'
          have Tt' := hid (Tt.out.below hg)
          clear Tt hg C A0 A1
          have Tt := Tt'
          clear Tt'
          go_simp
          obtain ⟨at9, t9, ht9, zt9, tbt9, slt9⟩ := Tt.out.sl 3 3 rfl (by omega)
          have Tt9 := hid tbt9
          have Yt9 := hid zt9
          clear tbt9 zt9
          have HVt9 : Hid (Lib.validD t9.data.toList = ANS) := by show _ = _; rw [ht9, Lib.ext_list, HF.out]
          clear ht9
          go_wp2_with fail
          have HR : VSt ANS w _ _ := ⟨⟨_, t9, rfl, Tt9.out, HVt9.out, (by have := Yt9.out; omega), HB.out⟩⟩
          go_roundw
          case rel => first | exact HR | ((repeat apply Exists.intro); exact HR) | ((repeat apply Exists.intro); exact ⟨HR, rfl⟩)
          case measure => (simp [lenOf] <;> (have := Yt9.out; omega))
    by_cases s4 : SZ = 4
    ·subst s4
     have HL2 := HL.out
     simp only [Lib.checkN, Nat.reduceEqDiff, if_true, if_false] at HL2
     have HL3 := hid HL2
     clear HL HL2
     have hSZz : (X : Int) % 8 = 4 := by have := HSZ.out; omega
     go_upto_region 26 with (fail)
     clear hSZz
     have hbk := block_new wr (.cells #[.int .u8 LO, .int .u8 HI] 121)
     have hb2 : Below wr.heap.size wr (wr.alloc (.cells #[.int .u8 LO, .int .u8 HI] 121)) := (Below.refl _ _).alloc (Nat.le_refl _) _
     have Tt' := hid (Tt.out.below hb2)
     have HB' := hid (HB.out.trans (Below.mono hb2 HB.out.size))
     obtain ⟨B, hB⟩ : ∃ B, B = wr.heap.size := ⟨_, rfl⟩
     rw [← hB] at hbk ⊢
     clear Tt HB HC c0 hc0 ha0 ha1 h7
     have Tt := Tt'; have HB := HB'
     clear Tt' HB' hb2 hB
     generalize wr.alloc (.cells #[.int .u8 LO, .int .u8 HI] 121) = W2 at *
     obtain ⟨b', o', e, C2⟩ := Tt.out.cells h0
     cases e
     have A0 := hid (cell_of_block (j := 0) hbk rfl)
     have A1 := hid (cell_of_block (j := 1) hbk rfl)
     have C := hid C2
     clear hbk C2
     by_cases q0 : t.size < 4
     ·have q0z : (t.size : Int) < 4 := by omega
      have HF : Hid (ANS = false) := by
       show _ = _
       have h := HL3.out
       rw [if_pos (by omega)] at h
       exact h
      clear q0
      refine wp_region_each 43 [.eq (.slice (some ⟨b, off, none⟩) t.size t.size), .eq (.int .i64 (t.size : Int)), .eq (.bool true), .eq (.bool true), .eq undef, .eq undef, .eq undef, .eq undef, .eq undef, .eq undef, .eq (.bool true), .eq (.bool true), .eq undef, .eq undef, .eq undef, .eq undef, .eq undef, .eq undef, .eq (.bool true), .eq (.bool true), .eq undef, .eq undef, .eq undef, .eq undef, .eq (.bool true), .eq (.bool true), .eq undef, .eq undef, .eq undef, .eq undef, .eq (.bool true), .eq (.bool true), .eq undef, .eq undef, .eq undef, .eq undef, .eq (.bool true), .eq (.bool true), .eq undef, .eq undef, .eq undef, .eq undef, .eq (.bool true)] (by kernel_rfl) (by kernel_rfl) (by kernel_rfl) (by kernel_rfl) ?_ ?_
      ·all_goals
        refine each_5 ?_ ?_ ?_ ?_ ?_ (each_5 ?_ ?_ ?_ ?_ ?_ (each_5 ?_ ?_ ?_ ?_ ?_ (each_5 ?_ ?_ ?_ ?_ ?_ (each_5 ?_ ?_ ?_ ?_ ?_ (each_5 ?_ ?_ ?_ ?_ ?_ (each_5 ?_ ?_ ?_ ?_ ?_ (each_5 ?_ ?_ ?_ ?_ ?_ (each_c ?_ (each_c ?_ (each_c ?_ (each_n)))))))))))
        ·intro w1 hg Ar seen
         have s0 := seen.sl 0 (.slice (some ⟨b, off, none⟩) t.size t.size)
         refine does_plain rfl fun K Q' hK => ?_
         go_simp; exact hK _ _ (Grow.refl _) rfl
        ·intro w1 hg Ar seen
         have e0 := seen.de 0 143
         refine does_plain rfl fun K Q' hK => ?_
         go_simp; exact hK _ _ (Grow.refl _) rfl
        ·intro w1 hg Ar seen
         have e1 := seen.de 1 144
         refine does_plain rfl fun K Q' hK => ?_
         go_simp; exact hK _ _ (Grow.refl _) rfl
        ·intro w1 hg Ar seen
         have e2 := seen.de 2 145
         refine does_plain rfl fun K Q' hK => ?_
         go_simp; exact hK _ _ (Grow.refl _) rfl
        ·intro w1 hg Ar seen
         have e3 := seen.de 3 146
         exact does_off rfl (by kernel_rfl) e3 ne_tf (Grow.refl _) rfl
        ·intro w1 hg Ar seen
         have e3 := seen.de 3 146
         exact does_off rfl (by kernel_rfl) e3 ne_tf (Grow.refl _) rfl
        ·intro w1 hg Ar seen
         have e3 := seen.de 3 146
         exact does_off rfl (by kernel_rfl) e3 ne_tf (Grow.refl _) rfl
        ·intro w1 hg Ar seen
         have e3 := seen.de 3 146
         exact does_off rfl (by kernel_rfl) e3 ne_tf (Grow.refl _) rfl
        ·intro w1 hg Ar seen
         have e3 := seen.de 3 146
         exact does_off rfl (by kernel_rfl) e3 ne_tf (Grow.refl _) rfl
        ·intro w1 hg Ar seen
         have e3 := seen.de 3 146
         exact does_off rfl (by kernel_rfl) e3 ne_tf (Grow.refl _) rfl
        ·intro w1 hg Ar seen
         have e3 := seen.de 3 146
         have e9 := seen.de 9 152
         refine does_plain rfl fun K Q' hK => ?_
         go_simp; exact hK _ _ (Grow.refl _) rfl
        ·intro w1 hg Ar seen
         have e10 := seen.de 10 153
         refine does_plain rfl fun K Q' hK => ?_
         go_simp; exact hK _ _ (Grow.refl _) rfl
        ·intro w1 hg Ar seen
         have e11 := seen.de 11 154
         exact does_off rfl (by kernel_rfl) e11 ne_tf (Grow.refl _) rfl
        ·intro w1 hg Ar seen
         have e11 := seen.de 11 154
         exact does_off rfl (by kernel_rfl) e11 ne_tf (Grow.refl _) rfl
        ·intro w1 hg Ar seen
         have e11 := seen.de 11 154
         exact does_off rfl (by kernel_rfl) e11 ne_tf (Grow.refl _) rfl
        ·intro w1 hg Ar seen
         have e11 := seen.de 11 154
         exact does_off rfl (by kernel_rfl) e11 ne_tf (Grow.refl _) rfl
        ·intro w1 hg Ar seen
         have e11 := seen.de 11 154
         exact does_off rfl (by kernel_rfl) e11 ne_tf (Grow.refl _) rfl
        ·intro w1 hg Ar seen
         have e11 := seen.de 11 154
         exact does_off rfl (by kernel_rfl) e11 ne_tf (Grow.refl _) rfl
        ·intro w1 hg Ar seen
         have e11 := seen.de 11 154
         have e17 := seen.de 17 160
         refine does_plain rfl fun K Q' hK => ?_
         go_simp; exact hK _ _ (Grow.refl _) rfl
        ·intro w1 hg Ar seen
         have e18 := seen.de 18 161
         refine does_plain rfl fun K Q' hK => ?_
         go_simp; exact hK _ _ (Grow.refl _) rfl
        ·intro w1 hg Ar seen
         have e19 := seen.de 19 162
         exact does_off rfl (by kernel_rfl) e19 ne_tf (Grow.refl _) rfl
        ·intro w1 hg Ar seen
         have e19 := seen.de 19 162
         exact does_off rfl (by kernel_rfl) e19 ne_tf (Grow.refl _) rfl
        ·intro w1 hg Ar seen
         have e19 := seen.de 19 162
         exact does_off rfl (by kernel_rfl) e19 ne_tf (Grow.refl _) rfl
        ·intro w1 hg Ar seen
         have e19 := seen.de 19 162
         exact does_off rfl (by kernel_rfl) e19 ne_tf (Grow.refl _) rfl
        ·intro w1 hg Ar seen
         have e19 := seen.de 19 162
         have e23 := seen.de 23 166
         refine does_plain rfl fun K Q' hK => ?_
         go_simp; exact hK _ _ (Grow.refl _) rfl
        ·intro w1 hg Ar seen
         have e24 := seen.de 24 167
         refine does_plain rfl fun K Q' hK => ?_
         go_simp; exact hK _ _ (Grow.refl _) rfl
        ·intro w1 hg Ar seen
         have e25 := seen.de 25 168
         exact does_off rfl (by kernel_rfl) e25 ne_tf (Grow.refl _) rfl
        ·intro w1 hg Ar seen
         have e25 := seen.de 25 168
         exact does_off rfl (by kernel_rfl) e25 ne_tf (Grow.refl _) rfl
        ·intro w1 hg Ar seen
         have e25 := seen.de 25 168
         exact does_off rfl (by kernel_rfl) e25 ne_tf (Grow.refl _) rfl
        ·intro w1 hg Ar seen
         have e25 := seen.de 25 168
         exact does_off rfl (by kernel_rfl) e25 ne_tf (Grow.refl _) rfl
        ·intro w1 hg Ar seen
         have e25 := seen.de 25 168
         have e29 := seen.de 29 172
         refine does_plain rfl fun K Q' hK => ?_
         go_simp; exact hK _ _ (Grow.refl _) rfl
        ·intro w1 hg Ar seen
         have e30 := seen.de 30 173
         refine does_plain rfl fun K Q' hK => ?_
         go_simp; exact hK _ _ (Grow.refl _) rfl
        ·intro w1 hg Ar seen
         have e31 := seen.de 31 174
         exact does_off rfl (by kernel_rfl) e31 ne_tf (Grow.refl _) rfl
        ·intro w1 hg Ar seen
         have e31 := seen.de 31 174
         exact does_off rfl (by kernel_rfl) e31 ne_tf (Grow.refl _) rfl
        ·intro w1 hg Ar seen
         have e31 := seen.de 31 174
         exact does_off rfl (by kernel_rfl) e31 ne_tf (Grow.refl _) rfl
        ·intro w1 hg Ar seen
         have e31 := seen.de 31 174
         exact does_off rfl (by kernel_rfl) e31 ne_tf (Grow.refl _) rfl
        ·intro w1 hg Ar seen
         have e31 := seen.de 31 174
         have e35 := seen.de 35 178
         refine does_plain rfl fun K Q' hK => ?_
         go_simp; exact hK _ _ (Grow.refl _) rfl
        ·intro w1 hg Ar seen
         have e36 := seen.de 36 179
         refine does_plain rfl fun K Q' hK => ?_
         go_simp; exact hK _ _ (Grow.refl _) rfl
        ·intro w1 hg Ar seen
         have e37 := seen.de 37 180
         exact does_off rfl (by kernel_rfl) e37 ne_tf (Grow.refl _) rfl
        ·intro w1 hg Ar seen
         have e37 := seen.de 37 180
         exact does_off rfl (by kernel_rfl) e37 ne_tf (Grow.refl _) rfl
        ·intro w1 hg Ar seen
         have e37 := seen.de 37 180
         exact does_off rfl (by kernel_rfl) e37 ne_tf (Grow.refl _) rfl
        ·intro w1 hg Ar seen
         have e37 := seen.de 37 180
         exact does_off rfl (by kernel_rfl) e37 ne_tf (Grow.refl _) rfl
        ·intro w1 hg Ar seen
         have e37 := seen.de 37 180
         have e41 := seen.de 41 184
         refine does_plain rfl fun K Q' hK => ?_
         go_simp; exact hK _ _ (Grow.refl _) rfl
      intro w1 hg
      refine upon_w' (js := [0, 1, 2, 3, 4, 5, 6, 7, 8, 9, 10, 11, 12, 13, 14, 15, 16, 17, 18, 19, 20, 21, 22, 23, 24, 25, 26, 27, 28, 29, 30, 31, 32, 33, 34, 35, 36, 37, 38, 39, 40, 41, 42]) (by rfl) ?_
      refine upon_e (some 143) (upon_e (some 144) (upon_e (some 145) (upon_e (some 146) (upon_e (some 147) (upon_e (some 148) (upon_e (some 149) (upon_e (some 150) (upon_e (some 151) (upon_e (some 152) (upon_e (some 153) (upon_e (some 154) (upon_e (some 155) (upon_e (some 156) (upon_e (some 157) (upon_e (some 158) (upon_e (some 159) (upon_e (some 160) (upon_e (some 161) (upon_e (some 162) (upon_e (some 163) (upon_e (some 164) (upon_e (some 165) (upon_e (some 166) (upon_e (some 167) (upon_e (some 168) (upon_e (some 169) (upon_e (some 170) (upon_e (some 171) (upon_e (some 172) (upon_e (some 173) (upon_e (some 174) (upon_e (some 175) (upon_e (some 176) (upon_e (some 177) (upon_e (some 178) (upon_e (some 179) (upon_e (some 180) (upon_e (some 181) (upon_e (some 182) (upon_e (some 183) (upon_e (some 184) (upon_e (some 185) (upon_n ?_)))))))))))))))))))))))))))))))))))))))))))
      go_simp
      have HB' := hid (HB.out.trans (Below.mono hg HB.out.size))
      clear HB
      have HB := HB'
      clear HB'
      clear hg
      go_simp
      go_wp2_with fail
      go_ret
      exact ⟨by rw [HF.out]; rfl, HB.out⟩
     ·have q0z : ¬ ((t.size : Int) < 4) := by omega
      have hz1 : (1 : Int) < (t.size : Int) := by omega
      have hp1 : 1 < t.size := by omega
      have CX1 : Hid (W2.cell? ⟨b, off + 1, none⟩ = some (.int .u8 x1.toNat)) := by have := C.out 1 (by omega); rw [HX1.out] at this; exact this
      have hz2 : (2 : Int) < (t.size : Int) := by omega
      have hp2 : 2 < t.size := by omega
      have CX2 : Hid (W2.cell? ⟨b, off + 2, none⟩ = some (.int .u8 x2.toNat)) := by have := C.out 2 (by omega); rw [HX2.out] at this; exact this
      have hz3 : (3 : Int) < (t.size : Int) := by omega
      have hp3 : 3 < t.size := by omega
      have CX3 : Hid (W2.cell? ⟨b, off + 3, none⟩ = some (.int .u8 x3.toNat)) := by have := C.out 3 (by omega); rw [HX3.out] at this; exact this
      by_cases q1 : x1.toNat < LO
      ·have q1z : (x1.toNat : Int) < (LO : Int) := by omega
       have HF : Hid (ANS = false) := by
        show _ = _
        have h := HL3.out
        rw [if_pos (by omega)] at h
        exact h
       clear q1
       refine wp_region_each 43 [.eq (.slice (some ⟨b, off, none⟩) t.size t.size), .eq (.int .i64 (t.size : Int)), .eq (.bool false), .eq (.bool false), .eq (.slice (some ⟨b, off, none⟩) t.size t.size), .eq (.pointer (some ⟨b, off + 1, none⟩)), .eq (.int .u8 x1.toNat), .eq (.pointer (some ⟨B, 0, none⟩)), .eq (.int .u8 LO), .eq (.bool true), .eq (.bool true), .eq (.bool true), .eq undef, .eq undef, .eq undef, .eq undef, .eq undef, .eq undef, .eq (.bool true), .eq (.bool true), .eq undef, .eq undef, .eq undef, .eq undef, .eq (.bool true), .eq (.bool true), .eq undef, .eq undef, .eq undef, .eq undef, .eq (.bool true), .eq (.bool true), .eq undef, .eq undef, .eq undef, .eq undef, .eq (.bool true), .eq (.bool true), .eq undef, .eq undef, .eq undef, .eq undef, .eq (.bool true)] (by kernel_rfl) (by kernel_rfl) (by kernel_rfl) (by kernel_rfl) ?_ ?_
       ·all_goals
         refine each_5 ?_ ?_ ?_ ?_ ?_ (each_5 ?_ ?_ ?_ ?_ ?_ (each_5 ?_ ?_ ?_ ?_ ?_ (each_5 ?_ ?_ ?_ ?_ ?_ (each_5 ?_ ?_ ?_ ?_ ?_ (each_5 ?_ ?_ ?_ ?_ ?_ (each_5 ?_ ?_ ?_ ?_ ?_ (each_5 ?_ ?_ ?_ ?_ ?_ (each_c ?_ (each_c ?_ (each_c ?_ (each_n)))))))))))
         ·intro w1 hg Ar seen
          have s0 := seen.sl 0 (.slice (some ⟨b, off, none⟩) t.size t.size)
          refine does_plain rfl fun K Q' hK => ?_
          go_simp; exact hK _ _ (Grow.refl _) rfl
         ·intro w1 hg Ar seen
          have e0 := seen.de 0 143
          refine does_plain rfl fun K Q' hK => ?_
          go_simp; exact hK _ _ (Grow.refl _) rfl
         ·intro w1 hg Ar seen
          have e1 := seen.de 1 144
          refine does_plain rfl fun K Q' hK => ?_
          go_simp; exact hK _ _ (Grow.refl _) rfl
         ·intro w1 hg Ar seen
          have e2 := seen.de 2 145
          refine does_plain rfl fun K Q' hK => ?_
          go_simp; exact hK _ _ (Grow.refl _) rfl
         ·intro w1 hg Ar seen
          have e3 := seen.de 3 146
          have s0 := seen.sl 0 (.slice (some ⟨b, off, none⟩) t.size t.size)
          refine does_on rfl (by kernel_rfl) e3 fun K Q' hK => ?_
          clear e3
          go_simp; exact hK _ _ (Grow.refl _) rfl
         ·intro w1 hg Ar seen
          have e4 := seen.de 4 147
          have e3 := seen.de 3 146
          refine does_on rfl (by kernel_rfl) e3 fun K Q' hK => ?_
          clear e3
          go_simp; exact hK _ _ (Grow.refl _) rfl
         ·intro w1 hg Ar seen
          have e5 := seen.de 5 148
          have e3 := seen.de 3 146
          refine does_on rfl (by kernel_rfl) e3 fun K Q' hK => ?_
          clear e3
          have hc := cell_later hg CX1.out
          go_simp; exact hK _ _ (Grow.refl _) rfl
         ·intro w1 hg Ar seen
          have e3 := seen.de 3 146
          have s6 := seen.sl 6 (.pointer (some ⟨B, 0, none⟩))
          refine does_on rfl (by kernel_rfl) e3 fun K Q' hK => ?_
          clear e3
          go_simp; exact hK _ _ (Grow.refl _) rfl
         ·intro w1 hg Ar seen
          have e7 := seen.de 7 150
          have e3 := seen.de 3 146
          refine does_on rfl (by kernel_rfl) e3 fun K Q' hK => ?_
          clear e3
          have hc := cell_later hg A0.out
          go_simp; exact hK _ _ (Grow.refl _) rfl
         ·intro w1 hg Ar seen
          have e6 := seen.de 6 149
          have e8 := seen.de 8 151
          have e3 := seen.de 3 146
          refine does_on rfl (by kernel_rfl) e3 fun K Q' hK => ?_
          clear e3
          go_simp; exact hK _ _ (Grow.refl _) rfl
         ·intro w1 hg Ar seen
          have e3 := seen.de 3 146
          have e9 := seen.de 9 152
          refine does_plain rfl fun K Q' hK => ?_
          go_simp; exact hK _ _ (Grow.refl _) rfl
         ·intro w1 hg Ar seen
          have e10 := seen.de 10 153
          refine does_plain rfl fun K Q' hK => ?_
          go_simp; exact hK _ _ (Grow.refl _) rfl
         ·intro w1 hg Ar seen
          have e11 := seen.de 11 154
          exact does_off rfl (by kernel_rfl) e11 ne_tf (Grow.refl _) rfl
         ·intro w1 hg Ar seen
          have e11 := seen.de 11 154
          exact does_off rfl (by kernel_rfl) e11 ne_tf (Grow.refl _) rfl
         ·intro w1 hg Ar seen
          have e11 := seen.de 11 154
          exact does_off rfl (by kernel_rfl) e11 ne_tf (Grow.refl _) rfl
         ·intro w1 hg Ar seen
          have e11 := seen.de 11 154
          exact does_off rfl (by kernel_rfl) e11 ne_tf (Grow.refl _) rfl
         ·intro w1 hg Ar seen
          have e11 := seen.de 11 154
          exact does_off rfl (by kernel_rfl) e11 ne_tf (Grow.refl _) rfl
         ·intro w1 hg Ar seen
          have e11 := seen.de 11 154
          exact does_off rfl (by kernel_rfl) e11 ne_tf (Grow.refl _) rfl
         ·intro w1 hg Ar seen
          have e11 := seen.de 11 154
          have e17 := seen.de 17 160
          refine does_plain rfl fun K Q' hK => ?_
          go_simp; exact hK _ _ (Grow.refl _) rfl
         ·intro w1 hg Ar seen
          have e18 := seen.de 18 161
          refine does_plain rfl fun K Q' hK => ?_
          go_simp; exact hK _ _ (Grow.refl _) rfl
         ·intro w1 hg Ar seen
          have e19 := seen.de 19 162
          exact does_off rfl (by kernel_rfl) e19 ne_tf (Grow.refl _) rfl
         ·intro w1 hg Ar seen
          have e19 := seen.de 19 162
          exact does_off rfl (by kernel_rfl) e19 ne_tf (Grow.refl _) rfl
         ·intro w1 hg Ar seen
          have e19 := seen.de 19 162
          exact does_off rfl (by kernel_rfl) e19 ne_tf (Grow.refl _) rfl
         ·intro w1 hg Ar seen
          have e19 := seen.de 19 162
          exact does_off rfl (by kernel_rfl) e19 ne_tf (Grow.refl _) rfl
         ·intro w1 hg Ar seen
          have e19 := seen.de 19 162
          have e23 := seen.de 23 166
          refine does_plain rfl fun K Q' hK => ?_
          go_simp; exact hK _ _ (Grow.refl _) rfl
         ·intro w1 hg Ar seen
          have e24 := seen.de 24 167
          refine does_plain rfl fun K Q' hK => ?_
          go_simp; exact hK _ _ (Grow.refl _) rfl
         ·intro w1 hg Ar seen
          have e25 := seen.de 25 168
          exact does_off rfl (by kernel_rfl) e25 ne_tf (Grow.refl _) rfl
         ·intro w1 hg Ar seen
          have e25 := seen.de 25 168
          exact does_off rfl (by kernel_rfl) e25 ne_tf (Grow.refl _) rfl
         ·intro w1 hg Ar seen
          have e25 := seen.de 25 168
          exact does_off rfl (by kernel_rfl) e25 ne_tf (Grow.refl _) rfl
         ·intro w1 hg Ar seen
          have e25 := seen.de 25 168
          exact does_off rfl (by kernel_rfl) e25 ne_tf (Grow.refl _) rfl
         ·intro w1 hg Ar seen
          have e25 := seen.de 25 168
          have e29 := seen.de 29 172
          refine does_plain rfl fun K Q' hK => ?_
          go_simp; exact hK _ _ (Grow.refl _) rfl
         ·intro w1 hg Ar seen
          have e30 := seen.de 30 173
          refine does_plain rfl fun K Q' hK => ?_
          go_simp; exact hK _ _ (Grow.refl _) rfl
         ·intro w1 hg Ar seen
          have e31 := seen.de 31 174
          exact does_off rfl (by kernel_rfl) e31 ne_tf (Grow.refl _) rfl
         ·intro w1 hg Ar seen
          have e31 := seen.de 31 174
          exact does_off rfl (by kernel_rfl) e31 ne_tf (Grow.refl _) rfl
         ·intro w1 hg Ar seen
          have e31 := seen.de 31 174
          exact does_off rfl (by kernel_rfl) e31 ne_tf (Grow.refl _) rfl
         ·intro w1 hg Ar seen
          have e31 := seen.de 31 174
          exact does_off rfl (by kernel_rfl) e31 ne_tf (Grow.refl _) rfl
         ·intro w1 hg Ar seen
          have e31 := seen.de 31 174
          have e35 := seen.de 35 178
          refine does_plain rfl fun K Q' hK => ?_
          go_simp; exact hK _ _ (Grow.refl _) rfl
         ·intro w1 hg Ar seen
          have e36 := seen.de 36 179
          refine does_plain rfl fun K Q' hK => ?_
          go_simp; exact hK _ _ (Grow.refl _) rfl
         ·intro w1 hg Ar seen
          have e37 := seen.de 37 180
          exact does_off rfl (by kernel_rfl) e37 ne_tf (Grow.refl _) rfl
         ·intro w1 hg Ar seen
          have e37 := seen.de 37 180
          exact does_off rfl (by kernel_rfl) e37 ne_tf (Grow.refl _) rfl
         ·intro w1 hg Ar seen
          have e37 := seen.de 37 180
          exact does_off rfl (by kernel_rfl) e37 ne_tf (Grow.refl _) rfl
         ·intro w1 hg Ar seen
          have e37 := seen.de 37 180
          exact does_off rfl (by kernel_rfl) e37 ne_tf (Grow.refl _) rfl
         ·intro w1 hg Ar seen
          have e37 := seen.de 37 180
          have e41 := seen.de 41 184
          refine does_plain rfl fun K Q' hK => ?_
          go_simp; exact hK _ _ (Grow.refl _) rfl
       intro w1 hg
       refine upon_w' (js := [0, 1, 2, 3, 4, 5, 6, 7, 8, 9, 10, 11, 12, 13, 14, 15, 16, 17, 18, 19, 20, 21, 22, 23, 24, 25, 26, 27, 28, 29, 30, 31, 32, 33, 34, 35, 36, 37, 38, 39, 40, 41, 42]) (by rfl) ?_
       refine upon_e (some 143) (upon_e (some 144) (upon_e (some 145) (upon_e (some 146) (upon_e (some 147) (upon_e (some 148) (upon_e (some 149) (upon_e (some 150) (upon_e (some 151) (upon_e (some 152) (upon_e (some 153) (upon_e (some 154) (upon_e (some 155) (upon_e (some 156) (upon_e (some 157) (upon_e (some 158) (upon_e (some 159) (upon_e (some 160) (upon_e (some 161) (upon_e (some 162) (upon_e (some 163) (upon_e (some 164) (upon_e (some 165) (upon_e (some 166) (upon_e (some 167) (upon_e (some 168) (upon_e (some 169) (upon_e (some 170) (upon_e (some 171) (upon_e (some 172) (upon_e (some 173) (upon_e (some 174) (upon_e (some 175) (upon_e (some 176) (upon_e (some 177) (upon_e (some 178) (upon_e (some 179) (upon_e (some 180) (upon_e (some 181) (upon_e (some 182) (upon_e (some 183) (upon_e (some 184) (upon_e (some 185) (upon_n ?_)))))))))))))))))))))))))))))))))))))))))))
       go_simp
       have HB' := hid (HB.out.trans (Below.mono hg HB.out.size))
       clear HB
       have HB := HB'
       clear HB'
       clear hg
       go_simp
       go_wp2_with fail
       go_ret
       exact ⟨by rw [HF.out]; rfl, HB.out⟩
      ·have q1z : ¬ ((x1.toNat : Int) < (LO : Int)) := by omega
       by_cases q2 : HI < x1.toNat
       ·have q2z : (HI : Int) < (x1.toNat : Int) := by omega
        have HF : Hid (ANS = false) := by
         show _ = _
         have h := HL3.out
         rw [if_pos (by omega)] at h
         exact h
        clear q2
        refine wp_region_each 43 [.eq (.slice (some ⟨b, off, none⟩) t.size t.size), .eq (.int .i64 (t.size : Int)), .eq (.bool false), .eq (.bool false), .eq (.slice (some ⟨b, off, none⟩) t.size t.size), .eq (.pointer (some ⟨b, off + 1, none⟩)), .eq (.int .u8 x1.toNat), .eq (.pointer (some ⟨B, 0, none⟩)), .eq (.int .u8 LO), .eq (.bool false), .eq (.bool false), .eq (.bool false), .eq (.pointer (some ⟨B, 1, none⟩)), .eq (.int .u8 HI), .eq (.slice (some ⟨b, off, none⟩) t.size t.size), .eq (.pointer (some ⟨b, off + 1, none⟩)), .eq (.int .u8 x1.toNat), .eq (.bool true), .eq (.bool true), .eq (.bool true), .eq undef, .eq undef, .eq undef, .eq undef, .eq (.bool true), .eq (.bool true), .eq undef, .eq undef, .eq undef, .eq undef, .eq (.bool true), .eq (.bool true), .eq undef, .eq undef, .eq undef, .eq undef, .eq (.bool true), .eq (.bool true), .eq undef, .eq undef, .eq undef, .eq undef, .eq (.bool true)] (by kernel_rfl) (by kernel_rfl) (by kernel_rfl) (by kernel_rfl) ?_ ?_
        ·all_goals
          refine each_5 ?_ ?_ ?_ ?_ ?_ (each_5 ?_ ?_ ?_ ?_ ?_ (each_5 ?_ ?_ ?_ ?_ ?_ (each_5 ?_ ?_ ?_ ?_ ?_ (each_5 ?_ ?_ ?_ ?_ ?_ (each_5 ?_ ?_ ?_ ?_ ?_ (each_5 ?_ ?_ ?_ ?_ ?_ (each_5 ?_ ?_ ?_ ?_ ?_ (each_c ?_ (each_c ?_ (each_c ?_ (each_n)))))))))))
          ·intro w1 hg Ar seen
           have s0 := seen.sl 0 (.slice (some ⟨b, off, none⟩) t.size t.size)
           refine does_plain rfl fun K Q' hK => ?_
           go_simp; exact hK _ _ (Grow.refl _) rfl
          ·intro w1 hg Ar seen
           have e0 := seen.de 0 143
           refine does_plain rfl fun K Q' hK => ?_
           go_simp; exact hK _ _ (Grow.refl _) rfl
          ·intro w1 hg Ar seen
           have e1 := seen.de 1 144
           refine does_plain rfl fun K Q' hK => ?_
           go_simp; exact hK _ _ (Grow.refl _) rfl
          ·intro w1 hg Ar seen
           have e2 := seen.de 2 145
           refine does_plain rfl fun K Q' hK => ?_
           go_simp; exact hK _ _ (Grow.refl _) rfl
          ·intro w1 hg Ar seen
           have e3 := seen.de 3 146
           have s0 := seen.sl 0 (.slice (some ⟨b, off, none⟩) t.size t.size)
           refine does_on rfl (by kernel_rfl) e3 fun K Q' hK => ?_
           clear e3
           go_simp; exact hK _ _ (Grow.refl _) rfl
          ·intro w1 hg Ar seen
           have e4 := seen.de 4 147
           have e3 := seen.de 3 146
           refine does_on rfl (by kernel_rfl) e3 fun K Q' hK => ?_
           clear e3
           go_simp; exact hK _ _ (Grow.refl _) rfl
          ·intro w1 hg Ar seen
           have e5 := seen.de 5 148
           have e3 := seen.de 3 146
           refine does_on rfl (by kernel_rfl) e3 fun K Q' hK => ?_
           clear e3
           have hc := cell_later hg CX1.out
           go_simp; exact hK _ _ (Grow.refl _) rfl
          ·intro w1 hg Ar seen
           have e3 := seen.de 3 146
           have s6 := seen.sl 6 (.pointer (some ⟨B, 0, none⟩))
           refine does_on rfl (by kernel_rfl) e3 fun K Q' hK => ?_
           clear e3
           go_simp; exact hK _ _ (Grow.refl _) rfl
          ·intro w1 hg Ar seen
           have e7 := seen.de 7 150
           have e3 := seen.de 3 146
           refine does_on rfl (by kernel_rfl) e3 fun K Q' hK => ?_
           clear e3
           have hc := cell_later hg A0.out
           go_simp; exact hK _ _ (Grow.refl _) rfl
          ·intro w1 hg Ar seen
           have e6 := seen.de 6 149
           have e8 := seen.de 8 151
           have e3 := seen.de 3 146
           refine does_on rfl (by kernel_rfl) e3 fun K Q' hK => ?_
           clear e3
           go_simp; exact hK _ _ (Grow.refl _) rfl
          ·intro w1 hg Ar seen
           have e3 := seen.de 3 146
           have e9 := seen.de 9 152
           refine does_plain rfl fun K Q' hK => ?_
           go_simp; exact hK _ _ (Grow.refl _) rfl
          ·intro w1 hg Ar seen
           have e10 := seen.de 10 153
           refine does_plain rfl fun K Q' hK => ?_
           go_simp; exact hK _ _ (Grow.refl _) rfl
          ·intro w1 hg Ar seen
           have e11 := seen.de 11 154
           have s6 := seen.sl 6 (.pointer (some ⟨B, 0, none⟩))
           refine does_on rfl (by kernel_rfl) e11 fun K Q' hK => ?_
           clear e11
           go_simp; exact hK _ _ (Grow.refl _) rfl
          ·intro w1 hg Ar seen
           have e12 := seen.de 12 155
           have e11 := seen.de 11 154
           refine does_on rfl (by kernel_rfl) e11 fun K Q' hK => ?_
           clear e11
           have hc := cell_later hg A1.out
           go_simp; exact hK _ _ (Grow.refl _) rfl
          ·intro w1 hg Ar seen
           have e11 := seen.de 11 154
           have s0 := seen.sl 0 (.slice (some ⟨b, off, none⟩) t.size t.size)
           refine does_on rfl (by kernel_rfl) e11 fun K Q' hK => ?_
           clear e11
           go_simp; exact hK _ _ (Grow.refl _) rfl
          ·intro w1 hg Ar seen
           have e14 := seen.de 14 157
           have e11 := seen.de 11 154
           refine does_on rfl (by kernel_rfl) e11 fun K Q' hK => ?_
           clear e11
           go_simp; exact hK _ _ (Grow.refl _) rfl
          ·intro w1 hg Ar seen
           have e15 := seen.de 15 158
           have e11 := seen.de 11 154
           refine does_on rfl (by kernel_rfl) e11 fun K Q' hK => ?_
           clear e11
           have hc := cell_later hg CX1.out
           go_simp; exact hK _ _ (Grow.refl _) rfl
          ·intro w1 hg Ar seen
           have e13 := seen.de 13 156
           have e16 := seen.de 16 159
           have e11 := seen.de 11 154
           refine does_on rfl (by kernel_rfl) e11 fun K Q' hK => ?_
           clear e11
           go_simp; exact hK _ _ (Grow.refl _) rfl
          ·intro w1 hg Ar seen
           have e11 := seen.de 11 154
           have e17 := seen.de 17 160
           refine does_plain rfl fun K Q' hK => ?_
           go_simp; exact hK _ _ (Grow.refl _) rfl
          ·intro w1 hg Ar seen
           have e18 := seen.de 18 161
           refine does_plain rfl fun K Q' hK => ?_
           go_simp; exact hK _ _ (Grow.refl _) rfl
          ·intro w1 hg Ar seen
           have e19 := seen.de 19 162
           exact does_off rfl (by kernel_rfl) e19 ne_tf (Grow.refl _) rfl
          ·intro w1 hg Ar seen
           have e19 := seen.de 19 162
           exact does_off rfl (by kernel_rfl) e19 ne_tf (Grow.refl _) rfl
          ·intro w1 hg Ar seen
           have e19 := seen.de 19 162
           exact does_off rfl (by kernel_rfl) e19 ne_tf (Grow.refl _) rfl
          ·intro w1 hg Ar seen
           have e19 := seen.de 19 162
           exact does_off rfl (by kernel_rfl) e19 ne_tf (Grow.refl _) rfl
          ·intro w1 hg Ar seen
           have e19 := seen.de 19 162
           have e23 := seen.de 23 166
           refine does_plain rfl fun K Q' hK => ?_
           go_simp; exact hK _ _ (Grow.refl _) rfl
          ·intro w1 hg Ar seen
           have e24 := seen.de 24 167
           refine does_plain rfl fun K Q' hK => ?_
           go_simp; exact hK _ _ (Grow.refl _) rfl
          ·intro w1 hg Ar seen
           have e25 := seen.de 25 168
           exact does_off rfl (by kernel_rfl) e25 ne_tf (Grow.refl _) rfl
          ·intro w1 hg Ar seen
           have e25 := seen.de 25 168
           exact does_off rfl (by kernel_rfl) e25 ne_tf (Grow.refl _) rfl
          ·intro w1 hg Ar seen
           have e25 := seen.de 25 168
           exact does_off rfl (by kernel_rfl) e25 ne_tf (Grow.refl _) rfl
          ·intro w1 hg Ar seen
           have e25 := seen.de 25 168
           exact does_off rfl (by kernel_rfl) e25 ne_tf (Grow.refl _) rfl
          ·intro w1 hg Ar seen
           have e25 := seen.de 25 168
           have e29 := seen.de 29 172
           refine does_plain rfl fun K Q' hK => ?_
           go_simp; exact hK _ _ (Grow.refl _) rfl
          ·intro w1 hg Ar seen
           have e30 := seen.de 30 173
           refine does_plain rfl fun K Q' hK => ?_
           go_simp; exact hK _ _ (Grow.refl _) rfl
          ·intro w1 hg Ar seen
           have e31 := seen.de 31 174
           exact does_off rfl (by kernel_rfl) e31 ne_tf (Grow.refl _) rfl
          ·intro w1 hg Ar seen
           have e31 := seen.de 31 174
           exact does_off rfl (by kernel_rfl) e31 ne_tf (Grow.refl _) rfl
          ·intro w1 hg Ar seen
           have e31 := seen.de 31 174
           exact does_off rfl (by kernel_rfl) e31 ne_tf (Grow.refl _) rfl
          ·intro w1 hg Ar seen
           have e31 := seen.de 31 174
           exact does_off rfl (by kernel_rfl) e31 ne_tf (Grow.refl _) rfl
          ·intro w1 hg Ar seen
           have e31 := seen.de 31 174
           have e35 := seen.de 35 178
           refine does_plain rfl fun K Q' hK => ?_
           go_simp; exact hK _ _ (Grow.refl _) rfl
          ·intro w1 hg Ar seen
           have e36 := seen.de 36 179
           refine does_plain rfl fun K Q' hK => ?_
           go_simp; exact hK _ _ (Grow.refl _) rfl
          ·intro w1 hg Ar seen
           have e37 := seen.de 37 180
           exact does_off rfl (by kernel_rfl) e37 ne_tf (Grow.refl _) rfl
          ·intro w1 hg Ar seen
           have e37 := seen.de 37 180
           exact does_off rfl (by kernel_rfl) e37 ne_tf (Grow.refl _) rfl
          ·intro w1 hg Ar seen
           have e37 := seen.de 37 180
           exact does_off rfl (by kernel_rfl) e37 ne_tf (Grow.refl _) rfl
          ·intro w1 hg Ar seen
           have e37 := seen.de 37 180
           exact does_off rfl (by kernel_rfl) e37 ne_tf (Grow.refl _) rfl
          ·intro w1 hg Ar seen
           have e37 := seen.de 37 180
           have e41 := seen.de 41 184
           refine does_plain rfl fun K Q' hK => ?_
           go_simp; exact hK _ _ (Grow.refl _) rfl
        intro w1 hg
        refine upon_w' (js := [0, 1, 2, 3, 4, 5, 6, 7, 8, 9, 10, 11, 12, 13, 14, 15, 16, 17, 18, 19, 20, 21, 22, 23, 24, 25, 26, 27, 28, 29, 30, 31, 32, 33, 34, 35, 36, 37, 38, 39, 40, 41, 42]) (by rfl) ?_
        refine upon_e (some 143) (upon_e (some 144) (upon_e (some 145) (upon_e (some 146) (upon_e (some 147) (upon_e (some 148) (upon_e (some 149) (upon_e (some 150) (upon_e (some 151) (upon_e (some 152) (upon_e (some 153) (upon_e (some 154) (upon_e (some 155) (upon_e (some 156) (upon_e (some 157) (upon_e (some 158) (upon_e (some 159) (upon_e (some 160) (upon_e (some 161) (upon_e (some 162) (upon_e (some 163) (upon_e (some 164) (upon_e (some 165) (upon_e (some 166) (upon_e (some 167) (upon_e (some 168) (upon_e (some 169) (upon_e (some 170) (upon_e (some 171) (upon_e (some 172) (upon_e (some 173) (upon_e (some 174) (upon_e (some 175) (upon_e (some 176) (upon_e (some 177) (upon_e (some 178) (upon_e (some 179) (upon_e (some 180) (upon_e (some 181) (upon_e (some 182) (upon_e (some 183) (upon_e (some 184) (upon_e (some 185) (upon_n ?_)))))))))))))))))))))))))))))))))))))))))))
        go_simp
        have HB' := hid (HB.out.trans (Below.mono hg HB.out.size))
        clear HB
        have HB := HB'
        clear HB'
        clear hg
        go_simp
        go_wp2_with fail
        go_ret
        exact ⟨by rw [HF.out]; rfl, HB.out⟩
       ·have q2z : ¬ ((HI : Int) < (x1.toNat : Int)) := by omega
        by_cases q3 : x2.toNat < 128
        ·have q3z : (x2.toNat : Int) < 128 := by omega
         have HF : Hid (ANS = false) := by
          show _ = _
          have h := HL3.out
          rw [if_pos (by omega)] at h
          exact h
         clear q3
         refine wp_region_each 43 [.eq (.slice (some ⟨b, off, none⟩) t.size t.size), .eq (.int .i64 (t.size : Int)), .eq (.bool false), .eq (.bool false), .eq (.slice (some ⟨b, off, none⟩) t.size t.size), .eq (.pointer (some ⟨b, off + 1, none⟩)), .eq (.int .u8 x1.toNat), .eq (.pointer (some ⟨B, 0, none⟩)), .eq (.int .u8 LO), .eq (.bool false), .eq (.bool false), .eq (.bool false), .eq (.pointer (some ⟨B, 1, none⟩)), .eq (.int .u8 HI), .eq (.slice (some ⟨b, off, none⟩) t.size t.size), .eq (.pointer (some ⟨b, off + 1, none⟩)), .eq (.int .u8 x1.toNat), .eq (.bool false), .eq (.bool false), .eq (.bool false), .eq (.slice (some ⟨b, off, none⟩) t.size t.size), .eq (.pointer (some ⟨b, off + 2, none⟩)), .eq (.int .u8 x2.toNat), .eq (.bool true), .eq (.bool true), .eq (.bool true), .eq undef, .eq undef, .eq undef, .eq undef, .eq (.bool true), .eq (.bool true), .eq undef, .eq undef, .eq undef, .eq undef, .eq (.bool true), .eq (.bool true), .eq undef, .eq undef, .eq undef, .eq undef, .eq (.bool true)] (by kernel_rfl) (by kernel_rfl) (by kernel_rfl) (by kernel_rfl) ?_ ?_
         ·all_goals
           refine each_5 ?_ ?_ ?_ ?_ ?_ (each_5 ?_ ?_ ?_ ?_ ?_ (each_5 ?_ ?_ ?_ ?_ ?_ (each_5 ?_ ?_ ?_ ?_ ?_ (each_5 ?_ ?_ ?_ ?_ ?_ (each_5 ?_ ?_ ?_ ?_ ?_ (each_5 ?_ ?_ ?_ ?_ ?_ (each_5 ?_ ?_ ?_ ?_ ?_ (each_c ?_ (each_c ?_ (each_c ?_ (each_n)))))))))))
           ·intro w1 hg Ar seen
            have s0 := seen.sl 0 (.slice (some ⟨b, off, none⟩) t.size t.size)
            refine does_plain rfl fun K Q' hK => ?_
            go_simp; exact hK _ _ (Grow.refl _) rfl
           ·intro w1 hg Ar seen
            have e0 := seen.de 0 143
            refine does_plain rfl fun K Q' hK => ?_
            go_simp; exact hK _ _ (Grow.refl _) rfl
           ·intro w1 hg Ar seen
            have e1 := seen.de 1 144
            refine does_plain rfl fun K Q' hK => ?_
            go_simp; exact hK _ _ (Grow.refl _) rfl
           ·intro w1 hg Ar seen
            have e2 := seen.de 2 145
            refine does_plain rfl fun K Q' hK => ?_
            go_simp; exact hK _ _ (Grow.refl _) rfl
           ·intro w1 hg Ar seen
            have e3 := seen.de 3 146
            have s0 := seen.sl 0 (.slice (some ⟨b, off, none⟩) t.size t.size)
            refine does_on rfl (by kernel_rfl) e3 fun K Q' hK => ?_
            clear e3
            go_simp; exact hK _ _ (Grow.refl _) rfl
           ·intro w1 hg Ar seen
            have e4 := seen.de 4 147
            have e3 := seen.de 3 146
            refine does_on rfl (by kernel_rfl) e3 fun K Q' hK => ?_
            clear e3
            go_simp; exact hK _ _ (Grow.refl _) rfl
           ·intro w1 hg Ar seen
            have e5 := seen.de 5 148
            have e3 := seen.de 3 146
            refine does_on rfl (by kernel_rfl) e3 fun K Q' hK => ?_
            clear e3
            have hc := cell_later hg CX1.out
            go_simp; exact hK _ _ (Grow.refl _) rfl
           ·intro w1 hg Ar seen
            have e3 := seen.de 3 146
            have s6 := seen.sl 6 (.pointer (some ⟨B, 0, none⟩))
            refine does_on rfl (by kernel_rfl) e3 fun K Q' hK => ?_
            clear e3
            go_simp; exact hK _ _ (Grow.refl _) rfl
           ·intro w1 hg Ar seen
            have e7 := seen.de 7 150
            have e3 := seen.de 3 146
            refine does_on rfl (by kernel_rfl) e3 fun K Q' hK => ?_
            clear e3
            have hc := cell_later hg A0.out
            go_simp; exact hK _ _ (Grow.refl _) rfl
           ·intro w1 hg Ar seen
            have e6 := seen.de 6 149
            have e8 := seen.de 8 151
            have e3 := seen.de 3 146
            refine does_on rfl (by kernel_rfl) e3 fun K Q' hK => ?_
            clear e3
            go_simp; exact hK _ _ (Grow.refl _) rfl
           ·intro w1 hg Ar seen
            have e3 := seen.de 3 146
            have e9 := seen.de 9 152
            refine does_plain rfl fun K Q' hK => ?_
            go_simp; exact hK _ _ (Grow.refl _) rfl
           ·intro w1 hg Ar seen
            have e10 := seen.de 10 153
            refine does_plain rfl fun K Q' hK => ?_
            go_simp; exact hK _ _ (Grow.refl _) rfl
           ·intro w1 hg Ar seen
            have e11 := seen.de 11 154
            have s6 := seen.sl 6 (.pointer (some ⟨B, 0, none⟩))
            refine does_on rfl (by kernel_rfl) e11 fun K Q' hK => ?_
            clear e11
            go_simp; exact hK _ _ (Grow.refl _) rfl
           ·intro w1 hg Ar seen
            have e12 := seen.de 12 155
            have e11 := seen.de 11 154
            refine does_on rfl (by kernel_rfl) e11 fun K Q' hK => ?_
            clear e11
            have hc := cell_later hg A1.out
            go_simp; exact hK _ _ (Grow.refl _) rfl
           ·intro w1 hg Ar seen
            have e11 := seen.de 11 154
            have s0 := seen.sl 0 (.slice (some ⟨b, off, none⟩) t.size t.size)
            refine does_on rfl (by kernel_rfl) e11 fun K Q' hK => ?_
            clear e11
            go_simp; exact hK _ _ (Grow.refl _) rfl
           ·intro w1 hg Ar seen
            have e14 := seen.de 14 157
            have e11 := seen.de 11 154
            refine does_on rfl (by kernel_rfl) e11 fun K Q' hK => ?_
            clear e11
            go_simp; exact hK _ _ (Grow.refl _) rfl
           ·intro w1 hg Ar seen
            have e15 := seen.de 15 158
            have e11 := seen.de 11 154
            refine does_on rfl (by kernel_rfl) e11 fun K Q' hK => ?_
            clear e11
            have hc := cell_later hg CX1.out
            go_simp; exact hK _ _ (Grow.refl _) rfl
           ·intro w1 hg Ar seen
            have e13 := seen.de 13 156
            have e16 := seen.de 16 159
            have e11 := seen.de 11 154
            refine does_on rfl (by kernel_rfl) e11 fun K Q' hK => ?_
            clear e11
            go_simp; exact hK _ _ (Grow.refl _) rfl
           ·intro w1 hg Ar seen
            have e11 := seen.de 11 154
            have e17 := seen.de 17 160
            refine does_plain rfl fun K Q' hK => ?_
            go_simp; exact hK _ _ (Grow.refl _) rfl
           ·intro w1 hg Ar seen
            have e18 := seen.de 18 161
            refine does_plain rfl fun K Q' hK => ?_
            go_simp; exact hK _ _ (Grow.refl _) rfl
           ·intro w1 hg Ar seen
            have e19 := seen.de 19 162
            have s0 := seen.sl 0 (.slice (some ⟨b, off, none⟩) t.size t.size)
            refine does_on rfl (by kernel_rfl) e19 fun K Q' hK => ?_
            clear e19
            go_simp; exact hK _ _ (Grow.refl _) rfl
           ·intro w1 hg Ar seen
            have e20 := seen.de 20 163
            have e19 := seen.de 19 162
            refine does_on rfl (by kernel_rfl) e19 fun K Q' hK => ?_
            clear e19
            go_simp; exact hK _ _ (Grow.refl _) rfl
           ·intro w1 hg Ar seen
            have e21 := seen.de 21 164
            have e19 := seen.de 19 162
            refine does_on rfl (by kernel_rfl) e19 fun K Q' hK => ?_
            clear e19
            have hc := cell_later hg CX2.out
            go_simp; exact hK _ _ (Grow.refl _) rfl
           ·intro w1 hg Ar seen
            have e22 := seen.de 22 165
            have e19 := seen.de 19 162
            refine does_on rfl (by kernel_rfl) e19 fun K Q' hK => ?_
            clear e19
            go_simp; exact hK _ _ (Grow.refl _) rfl
           ·intro w1 hg Ar seen
            have e19 := seen.de 19 162
            have e23 := seen.de 23 166
            refine does_plain rfl fun K Q' hK => ?_
            go_simp; exact hK _ _ (Grow.refl _) rfl
           ·intro w1 hg Ar seen
            have e24 := seen.de 24 167
            refine does_plain rfl fun K Q' hK => ?_
            go_simp; exact hK _ _ (Grow.refl _) rfl
           ·intro w1 hg Ar seen
            have e25 := seen.de 25 168
            exact does_off rfl (by kernel_rfl) e25 ne_tf (Grow.refl _) rfl
           ·intro w1 hg Ar seen
            have e25 := seen.de 25 168
            exact does_off rfl (by kernel_rfl) e25 ne_tf (Grow.refl _) rfl
           ·intro w1 hg Ar seen
            have e25 := seen.de 25 168
            exact does_off rfl (by kernel_rfl) e25 ne_tf (Grow.refl _) rfl
           ·intro w1 hg Ar seen
            have e25 := seen.de 25 168
            exact does_off rfl (by kernel_rfl) e25 ne_tf (Grow.refl _) rfl
           ·intro w1 hg Ar seen
            have e25 := seen.de 25 168
            have e29 := seen.de 29 172
            refine does_plain rfl fun K Q' hK => ?_
            go_simp; exact hK _ _ (Grow.refl _) rfl
           ·intro w1 hg Ar seen
            have e30 := seen.de 30 173
            refine does_plain rfl fun K Q' hK => ?_
            go_simp; exact hK _ _ (Grow.refl _) rfl
           ·intro w1 hg Ar seen
            have e31 := seen.de 31 174
            exact does_off rfl (by kernel_rfl) e31 ne_tf (Grow.refl _) rfl
           ·intro w1 hg Ar seen
            have e31 := seen.de 31 174
            exact does_off rfl (by kernel_rfl) e31 ne_tf (Grow.refl _) rfl
           ·intro w1 hg Ar seen
            have e31 := seen.de 31 174
            exact does_off rfl (by kernel_rfl) e31 ne_tf (Grow.refl _) rfl
           ·intro w1 hg Ar seen
            have e31 := seen.de 31 174
            exact does_off rfl (by kernel_rfl) e31 ne_tf (Grow.refl _) rfl
           ·intro w1 hg Ar seen
            have e31 := seen.de 31 174
            have e35 := seen.de 35 178
            refine does_plain rfl fun K Q' hK => ?_
            go_simp; exact hK _ _ (Grow.refl _) rfl
           ·intro w1 hg Ar seen
            have e36 := seen.de 36 179
            refine does_plain rfl fun K Q' hK => ?_
            go_simp; exact hK _ _ (Grow.refl _) rfl
           ·intro w1 hg Ar seen
            have e37 := seen.de 37 180
            exact does_off rfl (by kernel_rfl) e37 ne_tf (Grow.refl _) rfl
           ·intro w1 hg Ar seen
            have e37 := seen.de 37 180
            exact does_off rfl (by kernel_rfl) e37 ne_tf (Grow.refl _) rfl
           ·intro w1 hg Ar seen
            have e37 := seen.de 37 180
            exact does_off rfl (by kernel_rfl) e37 ne_tf (Grow.refl _) rfl
           ·intro w1 hg Ar seen
            have e37 := seen.de 37 180
            exact does_off rfl (by kernel_rfl) e37 ne_tf (Grow.refl _) rfl
           ·intro w1 hg Ar seen
            have e37 := seen.de 37 180
            have e41 := seen.de 41 184
            refine does_plain rfl fun K Q' hK => ?_
            go_simp; exact hK _ _ (Grow.refl _) rfl
         intro w1 hg
         refine upon_w' (js := [0, 1, 2, 3, 4, 5, 6, 7, 8, 9, 10, 11, 12, 13, 14, 15, 16, 17, 18, 19, 20, 21, 22, 23, 24, 25, 26, 27, 28, 29, 30, 31, 32, 33, 34, 35, 36, 37, 38, 39, 40, 41, 42]) (by rfl) ?_
         refine upon_e (some 143) (upon_e (some 144) (upon_e (some 145) (upon_e (some 146) (upon_e (some 147) (upon_e (some 148) (upon_e (some 149) (upon_e (some 150) (upon_e (some 151) (upon_e (some 152) (upon_e (some 153) (upon_e (some 154) (upon_e (some 155) (upon_e (some 156) (upon_e (some 157) (upon_e (some 158) (upon_e (some 159) (upon_e (some 160) (upon_e (some 161) (upon_e (some 162) (upon_e (some 163) (upon_e (some 164) (upon_e (some 165) (upon_e (some 166) (upon_e (some 167) (upon_e (some 168) (upon_e (some 169) (upon_e (some 170) (upon_e (some 171) (upon_e (some 172) (upon_e (some 173) (upon_e (some 174) (upon_e (some 175) (upon_e (some 176) (upon_e (some 177) (upon_e (some 178) (upon_e (some 179) (upon_e (some 180) (upon_e (some 181) (upon_e (some 182) (upon_e (some 183) (upon_e (some 184) (upon_e (some 185) (upon_n ?_)))))))))))))))))))))))))))))))))))))))))))
         go_simp
         have HB' := hid (HB.out.trans (Below.mono hg HB.out.size))
         clear HB
         have HB := HB'
         clear HB'
         clear hg
         go_simp
         go_wp2_with fail
         go_ret
         exact ⟨by rw [HF.out]; rfl, HB.out⟩
        ·have q3z : ¬ ((x2.toNat : Int) < 128) := by omega
         by_cases q4 : 191 < x2.toNat
         ·have q4z : (191 : Int) < (x2.toNat : Int) := by omega
          have HF : Hid (ANS = false) := by
           show _ = _
           have h := HL3.out
           rw [if_pos (by omega)] at h
           exact h
          clear q4
          refine wp_region_each 43 [.eq (.slice (some ⟨b, off, none⟩) t.size t.size), .eq (.int .i64 (t.size : Int)), .eq (.bool false), .eq (.bool false), .eq (.slice (some ⟨b, off, none⟩) t.size t.size), .eq (.pointer (some ⟨b, off + 1, none⟩)), .eq (.int .u8 x1.toNat), .eq (.pointer (some ⟨B, 0, none⟩)), .eq (.int .u8 LO), .eq (.bool false), .eq (.bool false), .eq (.bool false), .eq (.pointer (some ⟨B, 1, none⟩)), .eq (.int .u8 HI), .eq (.slice (some ⟨b, off, none⟩) t.size t.size), .eq (.pointer (some ⟨b, off + 1, none⟩)), .eq (.int .u8 x1.toNat), .eq (.bool false), .eq (.bool false), .eq (.bool false), .eq (.slice (some ⟨b, off, none⟩) t.size t.size), .eq (.pointer (some ⟨b, off + 2, none⟩)), .eq (.int .u8 x2.toNat), .eq (.bool false), .eq (.bool false), .eq (.bool false), .eq (.slice (some ⟨b, off, none⟩) t.size t.size), .eq (.pointer (some ⟨b, off + 2, none⟩)), .eq (.int .u8 x2.toNat), .eq (.bool true), .eq (.bool true), .eq (.bool true), .eq undef, .eq undef, .eq undef, .eq undef, .eq (.bool true), .eq (.bool true), .eq undef, .eq undef, .eq undef, .eq undef, .eq (.bool true)] (by kernel_rfl) (by kernel_rfl) (by kernel_rfl) (by kernel_rfl) ?_ ?_
          ·all_goals
            refine each_5 ?_ ?_ ?_ ?_ ?_ (each_5 ?_ ?_ ?_ ?_ ?_ (each_5 ?_ ?_ ?_ ?_ ?_ (each_5 ?_ ?_ ?_ ?_ ?_ (each_5 ?_ ?_ ?_ ?_ ?_ (each_5 ?_ ?_ ?_ ?_ ?_ (each_5 ?_ ?_ ?_ ?_ ?_ (each_5 ?_ ?_ ?_ ?_ ?_ (each_c ?_ (each_c ?_ (each_c ?_ (each_n)))))))))))
            ·intro w1 hg Ar seen
             have s0 := seen.sl 0 (.slice (some ⟨b, off, none⟩) t.size t.size)
             refine does_plain rfl fun K Q' hK => ?_
             go_simp; exact hK _ _ (Grow.refl _) rfl
            ·intro w1 hg Ar seen
             have e0 := seen.de 0 143
             refine does_plain rfl fun K Q' hK => ?_
             go_simp; exact hK _ _ (Grow.refl _) rfl
            ·intro w1 hg Ar seen
             have e1 := seen.de 1 144
             refine does_plain rfl fun K Q' hK => ?_
             go_simp; exact hK _ _ (Grow.refl _) rfl
            ·intro w1 hg Ar seen
             have e2 := seen.de 2 145
             refine does_plain rfl fun K Q' hK => ?_
             go_simp; exact hK _ _ (Grow.refl _) rfl
            ·intro w1 hg Ar seen
             have e3 := seen.de 3 146
             have s0 := seen.sl 0 (.slice (some ⟨b, off, none⟩) t.size t.size)
             refine does_on rfl (by kernel_rfl) e3 fun K Q' hK => ?_
             clear e3
             go_simp; exact hK _ _ (Grow.refl _) rfl
            ·intro w1 hg Ar seen
             have e4 := seen.de 4 147
             have e3 := seen.de 3 146
             refine does_on rfl (by kernel_rfl) e3 fun K Q' hK => ?_
             clear e3
             go_simp; exact hK _ _ (Grow.refl _) rfl
            ·intro w1 hg Ar seen
             have e5 := seen.de 5 148
             have e3 := seen.de 3 146
             refine does_on rfl (by kernel_rfl) e3 fun K Q' hK => ?_
             clear e3
             have hc := cell_later hg CX1.out
             go_simp; exact hK _ _ (Grow.refl _) rfl
            ·intro w1 hg Ar seen
             have e3 := seen.de 3 146
             have s6 := seen.sl 6 (.pointer (some ⟨B, 0, none⟩))
             refine does_on rfl (by kernel_rfl) e3 fun K Q' hK => ?_
             clear e3
             go_simp; exact hK _ _ (Grow.refl _) rfl
            ·intro w1 hg Ar seen
             have e7 := seen.de 7 150
             have e3 := seen.de 3 146
             refine does_on rfl (by kernel_rfl) e3 fun K Q' hK => ?_
             clear e3
             have hc := cell_later hg A0.out
             go_simp; exact hK _ _ (Grow.refl _) rfl
            ·intro w1 hg Ar seen
             have e6 := seen.de 6 149
             have e8 := seen.de 8 151
             have e3 := seen.de 3 146
             refine does_on rfl (by kernel_rfl) e3 fun K Q' hK => ?_
             clear e3
             go_simp; exact hK _ _ (Grow.refl _) rfl
            ·intro w1 hg Ar seen
             have e3 := seen.de 3 146
             have e9 := seen.de 9 152
             refine does_plain rfl fun K Q' hK => ?_
             go_simp; exact hK _ _ (Grow.refl _) rfl
            ·intro w1 hg Ar seen
             have e10 := seen.de 10 153
             refine does_plain rfl fun K Q' hK => ?_
             go_simp; exact hK _ _ (Grow.refl _) rfl
            ·intro w1 hg Ar seen
             have e11 := seen.de 11 154
             have s6 := seen.sl 6 (.pointer (some ⟨B, 0, none⟩))
             refine does_on rfl (by kernel_rfl) e11 fun K Q' hK => ?_
             clear e11
             go_simp; exact hK _ _ (Grow.refl _) rfl
            ·intro w1 hg Ar seen
             have e12 := seen.de 12 155
             have e11 := seen.de 11 154
             refine does_on rfl (by kernel_rfl) e11 fun K Q' hK => ?_
             clear e11
             have hc := cell_later hg A1.out
             go_simp; exact hK _ _ (Grow.refl _) rfl
            ·intro w1 hg Ar seen
             have e11 := seen.de 11 154
             have s0 := seen.sl 0 (.slice (some ⟨b, off, none⟩) t.size t.size)
             refine does_on rfl (by kernel_rfl) e11 fun K Q' hK => ?_
             clear e11
             go_simp; exact hK _ _ (Grow.refl _) rfl
            ·intro w1 hg Ar seen
             have e14 := seen.de 14 157
             have e11 := seen.de 11 154
             refine does_on rfl (by kernel_rfl) e11 fun K Q' hK => ?_
             clear e11
             go_simp; exact hK _ _ (Grow.refl _) rfl
            ·intro w1 hg Ar seen
             have e15 := seen.de 15 158
             have e11 := seen.de 11 154
             refine does_on rfl (by kernel_rfl) e11 fun K Q' hK => ?_
             clear e11
             have hc := cell_later hg CX1.out
             go_simp; exact hK _ _ (Grow.refl _) rfl
            ·intro w1 hg Ar seen
             have e13 := seen.de 13 156
             have e16 := seen.de 16 159
             have e11 := seen.de 11 154
             refine does_on rfl (by kernel_rfl) e11 fun K Q' hK => ?_
             clear e11
             go_simp; exact hK _ _ (Grow.refl _) rfl
            ·intro w1 hg Ar seen
             have e11 := seen.de 11 154
             have e17 := seen.de 17 160
             refine does_plain rfl fun K Q' hK => ?_
             go_simp; exact hK _ _ (Grow.refl _) rfl
            ·intro w1 hg Ar seen
             have e18 := seen.de 18 161
             refine does_plain rfl fun K Q' hK => ?_
             go_simp; exact hK _ _ (Grow.refl _) rfl
            ·intro w1 hg Ar seen
             have e19 := seen.de 19 162
             have s0 := seen.sl 0 (.slice (some ⟨b, off, none⟩) t.size t.size)
             refine does_on rfl (by kernel_rfl) e19 fun K Q' hK => ?_
             clear e19
             go_simp; exact hK _ _ (Grow.refl _) rfl
            ·intro w1 hg Ar seen
             have e20 := seen.de 20 163
             have e19 := seen.de 19 162
             refine does_on rfl (by kernel_rfl) e19 fun K Q' hK => ?_
             clear e19
             go_simp; exact hK _ _ (Grow.refl _) rfl
            ·intro w1 hg Ar seen
             have e21 := seen.de 21 164
             have e19 := seen.de 19 162
             refine does_on rfl (by kernel_rfl) e19 fun K Q' hK => ?_
             clear e19
             have hc := cell_later hg CX2.out
             go_simp; exact hK _ _ (Grow.refl _) rfl
            ·intro w1 hg Ar seen
             have e22 := seen.de 22 165
             have e19 := seen.de 19 162
             refine does_on rfl (by kernel_rfl) e19 fun K Q' hK => ?_
             clear e19
             go_simp; exact hK _ _ (Grow.refl _) rfl
            ·intro w1 hg Ar seen
             have e19 := seen.de 19 162
             have e23 := seen.de 23 166
             refine does_plain rfl fun K Q' hK => ?_
             go_simp; exact hK _ _ (Grow.refl _) rfl
            ·intro w1 hg Ar seen
             have e24 := seen.de 24 167
             refine does_plain rfl fun K Q' hK => ?_
             go_simp; exact hK _ _ (Grow.refl _) rfl
            ·intro w1 hg Ar seen
             have e25 := seen.de 25 168
             have s0 := seen.sl 0 (.slice (some ⟨b, off, none⟩) t.size t.size)
             refine does_on rfl (by kernel_rfl) e25 fun K Q' hK => ?_
             clear e25
             go_simp; exact hK _ _ (Grow.refl _) rfl
            ·intro w1 hg Ar seen
             have e26 := seen.de 26 169
             have e25 := seen.de 25 168
             refine does_on rfl (by kernel_rfl) e25 fun K Q' hK => ?_
             clear e25
             go_simp; exact hK _ _ (Grow.refl _) rfl
            ·intro w1 hg Ar seen
             have e27 := seen.de 27 170
             have e25 := seen.de 25 168
             refine does_on rfl (by kernel_rfl) e25 fun K Q' hK => ?_
             clear e25
             have hc := cell_later hg CX2.out
             go_simp; exact hK _ _ (Grow.refl _) rfl
            ·intro w1 hg Ar seen
             have e28 := seen.de 28 171
             have e25 := seen.de 25 168
             refine does_on rfl (by kernel_rfl) e25 fun K Q' hK => ?_
             clear e25
             go_simp; exact hK _ _ (Grow.refl _) rfl
            ·intro w1 hg Ar seen
             have e25 := seen.de 25 168
             have e29 := seen.de 29 172
             refine does_plain rfl fun K Q' hK => ?_
             go_simp; exact hK _ _ (Grow.refl _) rfl
            ·intro w1 hg Ar seen
             have e30 := seen.de 30 173
             refine does_plain rfl fun K Q' hK => ?_
             go_simp; exact hK _ _ (Grow.refl _) rfl
            ·intro w1 hg Ar seen
             have e31 := seen.de 31 174
             exact does_off rfl (by kernel_rfl) e31 ne_tf (Grow.refl _) rfl
            ·intro w1 hg Ar seen
             have e31 := seen.de 31 174
             exact does_off rfl (by kernel_rfl) e31 ne_tf (Grow.refl _) rfl
            ·intro w1 hg Ar seen
             have e31 := seen.de 31 174
             exact does_off rfl (by kernel_rfl) e31 ne_tf (Grow.refl _) rfl
            ·intro w1 hg Ar seen
             have e31 := seen.de 31 174
             exact does_off rfl (by kernel_rfl) e31 ne_tf (Grow.refl _) rfl
            ·intro w1 hg Ar seen
             have e31 := seen.de 31 174
             have e35 := seen.de 35 178
             refine does_plain rfl fun K Q' hK => ?_
             go_simp; exact hK _ _ (Grow.refl _) rfl
            ·intro w1 hg Ar seen
             have e36 := seen.de 36 179
             refine does_plain rfl fun K Q' hK => ?_
             go_simp; exact hK _ _ (Grow.refl _) rfl
            ·intro w1 hg Ar seen
             have e37 := seen.de 37 180
             exact does_off rfl (by kernel_rfl) e37 ne_tf (Grow.refl _) rfl
            ·intro w1 hg Ar seen
             have e37 := seen.de 37 180
             exact does_off rfl (by kernel_rfl) e37 ne_tf (Grow.refl _) rfl
            ·intro w1 hg Ar seen
             have e37 := seen.de 37 180
             exact does_off rfl (by kernel_rfl) e37 ne_tf (Grow.refl _) rfl
            ·intro w1 hg Ar seen
             have e37 := seen.de 37 180
             exact does_off rfl (by kernel_rfl) e37 ne_tf (Grow.refl _) rfl
            ·intro w1 hg Ar seen
             have e37 := seen.de 37 180
             have e41 := seen.de 41 184
             refine does_plain rfl fun K Q' hK => ?_
             go_simp; exact hK _ _ (Grow.refl _) rfl
          intro w1 hg
          refine upon_w' (js := [0, 1, 2, 3, 4, 5, 6, 7, 8, 9, 10, 11, 12, 13, 14, 15, 16, 17, 18, 19, 20, 21, 22, 23, 24, 25, 26, 27, 28, 29, 30, 31, 32, 33, 34, 35, 36, 37, 38, 39, 40, 41, 42]) (by rfl) ?_
          refine upon_e (some 143) (upon_e (some 144) (upon_e (some 145) (upon_e (some 146) (upon_e (some 147) (upon_e (some 148) (upon_e (some 149) (upon_e (some 150) (upon_e (some 151) (upon_e (some 152) (upon_e (some 153) (upon_e (some 154) (upon_e (some 155) (upon_e (some 156) (upon_e (some 157) (upon_e (some 158) (upon_e (some 159) (upon_e (some 160) (upon_e (some 161) (upon_e (some 162) (upon_e (some 163) (upon_e (some 164) (upon_e (some 165) (upon_e (some 166) (upon_e (some 167) (upon_e (some 168) (upon_e (some 169) (upon_e (some 170) (upon_e (some 171) (upon_e (some 172) (upon_e (some 173) (upon_e (some 174) (upon_e (some 175) (upon_e (some 176) (upon_e (some 177) (upon_e (some 178) (upon_e (some 179) (upon_e (some 180) (upon_e (some 181) (upon_e (some 182) (upon_e (some 183) (upon_e (some 184) (upon_e (some 185) (upon_n ?_)))))))))))))))))))))))))))))))))))))))))))
          go_simp
          have HB' := hid (HB.out.trans (Below.mono hg HB.out.size))
          clear HB
          have HB := HB'
          clear HB'
          clear hg
          go_simp
          go_wp2_with fail
          go_ret
          exact ⟨by rw [HF.out]; rfl, HB.out⟩
         ·have q4z : ¬ ((191 : Int) < (x2.toNat : Int)) := by omega
          by_cases q5 : x3.toNat < 128
          ·have q5z : (x3.toNat : Int) < 128 := by omega
           have HF : Hid (ANS = false) := by
            show _ = _
            have h := HL3.out
            rw [if_pos (by omega)] at h
            exact h
           clear q5
           refine wp_region_each 43 [.eq (.slice (some ⟨b, off, none⟩) t.size t.size), .eq (.int .i64 (t.size : Int)), .eq (.bool false), .eq (.bool false), .eq (.slice (some ⟨b, off, none⟩) t.size t.size), .eq (.pointer (some ⟨b, off + 1, none⟩)), .eq (.int .u8 x1.toNat), .eq (.pointer (some ⟨B, 0, none⟩)), .eq (.int .u8 LO), .eq (.bool false), .eq (.bool false), .eq (.bool false), .eq (.pointer (some ⟨B, 1, none⟩)), .eq (.int .u8 HI), .eq (.slice (some ⟨b, off, none⟩) t.size t.size), .eq (.pointer (some ⟨b, off + 1, none⟩)), .eq (.int .u8 x1.toNat), .eq (.bool false), .eq (.bool false), .eq (.bool false), .eq (.slice (some ⟨b, off, none⟩) t.size t.size), .eq (.pointer (some ⟨b, off + 2, none⟩)), .eq (.int .u8 x2.toNat), .eq (.bool false), .eq (.bool false), .eq (.bool false), .eq (.slice (some ⟨b, off, none⟩) t.size t.size), .eq (.pointer (some ⟨b, off + 2, none⟩)), .eq (.int .u8 x2.toNat), .eq (.bool false), .eq (.bool false), .eq (.bool false), .eq (.slice (some ⟨b, off, none⟩) t.size t.size), .eq (.pointer (some ⟨b, off + 3, none⟩)), .eq (.int .u8 x3.toNat), .eq (.bool true), .eq (.bool true), .eq (.bool true), .eq undef, .eq undef, .eq undef, .eq undef, .eq (.bool true)] (by kernel_rfl) (by kernel_rfl) (by kernel_rfl) (by kernel_rfl) ?_ ?_
           ·all_goals
             refine each_5 ?_ ?_ ?_ ?_ ?_ (each_5 ?_ ?_ ?_ ?_ ?_ (each_5 ?_ ?_ ?_ ?_ ?_ (each_5 ?_ ?_ ?_ ?_ ?_ (each_5 ?_ ?_ ?_ ?_ ?_ (each_5 ?_ ?_ ?_ ?_ ?_ (each_5 ?_ ?_ ?_ ?_ ?_ (each_5 ?_ ?_ ?_ ?_ ?_ (each_c ?_ (each_c ?_ (each_c ?_ (each_n)))))))))))
             ·intro w1 hg Ar seen
              have s0 := seen.sl 0 (.slice (some ⟨b, off, none⟩) t.size t.size)
              refine does_plain rfl fun K Q' hK => ?_
              go_simp; exact hK _ _ (Grow.refl _) rfl
             ·intro w1 hg Ar seen
              have e0 := seen.de 0 143
              refine does_plain rfl fun K Q' hK => ?_
              go_simp; exact hK _ _ (Grow.refl _) rfl
             ·intro w1 hg Ar seen
              have e1 := seen.de 1 144
              refine does_plain rfl fun K Q' hK => ?_
              go_simp; exact hK _ _ (Grow.refl _) rfl
             ·intro w1 hg Ar seen
              have e2 := seen.de 2 145
              refine does_plain rfl fun K Q' hK => ?_
              go_simp; exact hK _ _ (Grow.refl _) rfl
             ·intro w1 hg Ar seen
              have e3 := seen.de 3 146
              have s0 := seen.sl 0 (.slice (some ⟨b, off, none⟩) t.size t.size)
              refine does_on rfl (by kernel_rfl) e3 fun K Q' hK => ?_
              clear e3
              go_simp; exact hK _ _ (Grow.refl _) rfl
             ·intro w1 hg Ar seen
              have e4 := seen.de 4 147
              have e3 := seen.de 3 146
              refine does_on rfl (by kernel_rfl) e3 fun K Q' hK => ?_
              clear e3
              go_simp; exact hK _ _ (Grow.refl _) rfl
             ·intro w1 hg Ar seen
              have e5 := seen.de 5 148
              have e3 := seen.de 3 146
              refine does_on rfl (by kernel_rfl) e3 fun K Q' hK => ?_
              clear e3
              have hc := cell_later hg CX1.out
              go_simp; exact hK _ _ (Grow.refl _) rfl
             ·intro w1 hg Ar seen
              have e3 := seen.de 3 146
              have s6 := seen.sl 6 (.pointer (some ⟨B, 0, none⟩))
              refine does_on rfl (by kernel_rfl) e3 fun K Q' hK => ?_
              clear e3
              go_simp; exact hK _ _ (Grow.refl _) rfl
             ·intro w1 hg Ar seen
              have e7 := seen.de 7 150
              have e3 := seen.de 3 146
              refine does_on rfl (by kernel_rfl) e3 fun K Q' hK => ?_
              clear e3
              have hc := cell_later hg A0.out
              go_simp; exact hK _ _ (Grow.refl _) rfl
             ·intro w1 hg Ar seen
              have e6 := seen.de 6 149
              have e8 := seen.de 8 151
              have e3 := seen.de 3 146
              refine does_on rfl (by kernel_rfl) e3 fun K Q' hK => ?_
              clear e3
              go_simp; exact hK _ _ (Grow.refl _) rfl
             ·intro w1 hg Ar seen
              have e3 := seen.de 3 146
              have e9 := seen.de 9 152
              refine does_plain rfl fun K Q' hK => ?_
              go_simp; exact hK _ _ (Grow.refl _) rfl
             ·intro w1 hg Ar seen
              have e10 := seen.de 10 153
              refine does_plain rfl fun K Q' hK => ?_
              go_simp; exact hK _ _ (Grow.refl _) rfl
             ·intro w1 hg Ar seen
              have e11 := seen.de 11 154
              have s6 := seen.sl 6 (.pointer (some ⟨B, 0, none⟩))
              refine does_on rfl (by kernel_rfl) e11 fun K Q' hK => ?_
              clear e11
              go_simp; exact hK _ _ (Grow.refl _) rfl
             ·intro w1 hg Ar seen
              have e12 := seen.de 12 155
              have e11 := seen.de 11 154
              refine does_on rfl (by kernel_rfl) e11 fun K Q' hK => ?_
              clear e11
              have hc := cell_later hg A1.out
              go_simp; exact hK _ _ (Grow.refl _) rfl
             ·intro w1 hg Ar seen
              have e11 := seen.de 11 154
              have s0 := seen.sl 0 (.slice (some ⟨b, off, none⟩) t.size t.size)
              refine does_on rfl (by kernel_rfl) e11 fun K Q' hK => ?_
              clear e11
              go_simp; exact hK _ _ (Grow.refl _) rfl
             ·intro w1 hg Ar seen
              have e14 := seen.de 14 157
              have e11 := seen.de 11 154
              refine does_on rfl (by kernel_rfl) e11 fun K Q' hK => ?_
              clear e11
              go_simp; exact hK _ _ (Grow.refl _) rfl
             ·intro w1 hg Ar seen
              have e15 := seen.de 15 158
              have e11 := seen.de 11 154
              refine does_on rfl (by kernel_rfl) e11 fun K Q' hK => ?_
              clear e11
              have hc := cell_later hg CX1.out
              go_simp; exact hK _ _ (Grow.refl _) rfl
             ·intro w1 hg Ar seen
              have e13 := seen.de 13 156
              have e16 := seen.de 16 159
              have e11 := seen.de 11 154
              refine does_on rfl (by kernel_rfl) e11 fun K Q' hK => ?_
              clear e11
              go_simp; exact hK _ _ (Grow.refl _) rfl
             ·intro w1 hg Ar seen
              have e11 := seen.de 11 154
              have e17 := seen.de 17 160
              refine does_plain rfl fun K Q' hK => ?_
              go_simp; exact hK _ _ (Grow.refl _) rfl
             ·intro w1 hg Ar seen
              have e18 := seen.de 18 161
              refine does_plain rfl fun K Q' hK => ?_
              go_simp; exact hK _ _ (Grow.refl _) rfl
             ·intro w1 hg Ar seen
              have e19 := seen.de 19 162
              have s0 := seen.sl 0 (.slice (some ⟨b, off, none⟩) t.size t.size)
              refine does_on rfl (by kernel_rfl) e19 fun K Q' hK => ?_
              clear e19
              go_simp; exact hK _ _ (Grow.refl _) rfl
             ·intro w1 hg Ar seen
              have e20 := seen.de 20 163
              have e19 := seen.de 19 162
              refine does_on rfl (by kernel_rfl) e19 fun K Q' hK => ?_
              clear e19
              go_simp; exact hK _ _ (Grow.refl _) rfl
             ·intro w1 hg Ar seen
              have e21 := seen.de 21 164
              have e19 := seen.de 19 162
              refine does_on rfl (by kernel_rfl) e19 fun K Q' hK => ?_
              clear e19
              have hc := cell_later hg CX2.out
              go_simp; exact hK _ _ (Grow.refl _) rfl
             ·intro w1 hg Ar seen
              have e22 := seen.de 22 165
              have e19 := seen.de 19 162
              refine does_on rfl (by kernel_rfl) e19 fun K Q' hK => ?_
              clear e19
              go_simp; exact hK _ _ (Grow.refl _) rfl
             ·intro w1 hg Ar seen
              have e19 := seen.de 19 162
              have e23 := seen.de 23 166
              refine does_plain rfl fun K Q' hK => ?_
              go_simp; exact hK _ _ (Grow.refl _) rfl
             ·intro w1 hg Ar seen
              have e24 := seen.de 24 167
              refine does_plain rfl fun K Q' hK => ?_
              go_simp; exact hK _ _ (Grow.refl _) rfl
             ·intro w1 hg Ar seen
              have e25 := seen.de 25 168
              have s0 := seen.sl 0 (.slice (some ⟨b, off, none⟩) t.size t.size)
              refine does_on rfl (by kernel_rfl) e25 fun K Q' hK => ?_
              clear e25
              go_simp; exact hK _ _ (Grow.refl _) rfl
             ·intro w1 hg Ar seen
              have e26 := seen.de 26 169
              have e25 := seen.de 25 168
              refine does_on rfl (by kernel_rfl) e25 fun K Q' hK => ?_
              clear e25
              go_simp; exact hK _ _ (Grow.refl _) rfl
             ·intro w1 hg Ar seen
              have e27 := seen.de 27 170
              have e25 := seen.de 25 168
              refine does_on rfl (by kernel_rfl) e25 fun K Q' hK => ?_
              clear e25
              have hc := cell_later hg CX2.out
              go_simp; exact hK _ _ (Grow.refl _) rfl
             ·intro w1 hg Ar seen
              have e28 := seen.de 28 171
              have e25 := seen.de 25 168
              refine does_on rfl (by kernel_rfl) e25 fun K Q' hK => ?_
              clear e25
              go_simp; exact hK _ _ (Grow.refl _) rfl
             ·intro w1 hg Ar seen
              have e25 := seen.de 25 168
              have e29 := seen.de 29 172
              refine does_plain rfl fun K Q' hK => ?_
              go_simp; exact hK _ _ (Grow.refl _) rfl
             ·intro w1 hg Ar seen
              have e30 := seen.de 30 173
              refine does_plain rfl fun K Q' hK => ?_
              go_simp; exact hK _ _ (Grow.refl _) rfl
             ·intro w1 hg Ar seen
              have e31 := seen.de 31 174
              have s0 := seen.sl 0 (.slice (some ⟨b, off, none⟩) t.size t.size)
              refine does_on rfl (by kernel_rfl) e31 fun K Q' hK => ?_
              clear e31
              go_simp; exact hK _ _ (Grow.refl _) rfl
             ·intro w1 hg Ar seen
              have e32 := seen.de 32 175
              have e31 := seen.de 31 174
              refine does_on rfl (by kernel_rfl) e31 fun K Q' hK => ?_
              clear e31
              go_simp; exact hK _ _ (Grow.refl _) rfl
             ·intro w1 hg Ar seen
              have e33 := seen.de 33 176
              have e31 := seen.de 31 174
              refine does_on rfl (by kernel_rfl) e31 fun K Q' hK => ?_
              clear e31
              have hc := cell_later hg CX3.out
              go_simp; exact hK _ _ (Grow.refl _) rfl
             ·intro w1 hg Ar seen
              have e34 := seen.de 34 177
              have e31 := seen.de 31 174
              refine does_on rfl (by kernel_rfl) e31 fun K Q' hK => ?_
              clear e31
              go_simp; exact hK _ _ (Grow.refl _) rfl
             ·intro w1 hg Ar seen
              have e31 := seen.de 31 174
              have e35 := seen.de 35 178
              refine does_plain rfl fun K Q' hK => ?_
              go_simp; exact hK _ _ (Grow.refl _) rfl
             ·intro w1 hg Ar seen
              have e36 := seen.de 36 179
              refine does_plain rfl fun K Q' hK => ?_
              go_simp; exact hK _ _ (Grow.refl _) rfl
             ·intro w1 hg Ar seen
              have e37 := seen.de 37 180
              exact does_off rfl (by kernel_rfl) e37 ne_tf (Grow.refl _) rfl
             ·intro w1 hg Ar seen
              have e37 := seen.de 37 180
              exact does_off rfl (by kernel_rfl) e37 ne_tf (Grow.refl _) rfl
             ·intro w1 hg Ar seen
              have e37 := seen.de 37 180
              exact does_off rfl (by kernel_rfl) e37 ne_tf (Grow.refl _) rfl
             ·intro w1 hg Ar seen
              have e37 := seen.de 37 180
              exact does_off rfl (by kernel_rfl) e37 ne_tf (Grow.refl _) rfl
             ·intro w1 hg Ar seen
              have e37 := seen.de 37 180
              have e41 := seen.de 41 184
              refine does_plain rfl fun K Q' hK => ?_
              go_simp; exact hK _ _ (Grow.refl _) rfl
           intro w1 hg
           refine upon_w' (js := [0, 1, 2, 3, 4, 5, 6, 7, 8, 9, 10, 11, 12, 13, 14, 15, 16, 17, 18, 19, 20, 21, 22, 23, 24, 25, 26, 27, 28, 29, 30, 31, 32, 33, 34, 35, 36, 37, 38, 39, 40, 41, 42]) (by rfl) ?_
           refine upon_e (some 143) (upon_e (some 144) (upon_e (some 145) (upon_e (some 146) (upon_e (some 147) (upon_e (some 148) (upon_e (some 149) (upon_e (some 150) (upon_e (some 151) (upon_e (some 152) (upon_e (some 153) (upon_e (some 154) (upon_e (some 155) (upon_e (some 156) (upon_e (some 157) (upon_e (some 158) (upon_e (some 159) (upon_e (some 160) (upon_e (some 161) (upon_e (some 162) (upon_e (some 163) (upon_e (some 164) (upon_e (some 165) (upon_e (some 166) (upon_e (some 167) (upon_e (some 168) (upon_e (some 169) (upon_e (some 170) (upon_e (some 171) (upon_e (some 172) (upon_e (some 173) (upon_e (some 174) (upon_e (some 175) (upon_e (some 176) (upon_e (some 177) (upon_e (some 178) (upon_e (some 179) (upon_e (some 180) (upon_e (some 181) (upon_e (some 182) (upon_e (some 183) (upon_e (some 184) (upon_e (some 185) (upon_n ?_)))))))))))))))))))))))))))))))))))))))))))
           go_simp
           have HB' := hid (HB.out.trans (Below.mono hg HB.out.size))
           clear HB
           have HB := HB'
           clear HB'
           clear hg
           go_simp
           go_wp2_with fail
           go_ret
           exact ⟨by rw [HF.out]; rfl, HB.out⟩
          ·have q5z : ¬ ((x3.toNat : Int) < 128) := by omega
           by_cases q6 : 191 < x3.toNat
           ·have q6z : (191 : Int) < (x3.toNat : Int) := by omega
            have HF : Hid (ANS = false) := by
             show _ = _
             have h := HL3.out
             rw [if_pos (by omega)] at h
             exact h
            clear q6
            refine wp_region_each 43 [.eq (.slice (some ⟨b, off, none⟩) t.size t.size), .eq (.int .i64 (t.size : Int)), .eq (.bool false), .eq (.bool false), .eq (.slice (some ⟨b, off, none⟩) t.size t.size), .eq (.pointer (some ⟨b, off + 1, none⟩)), .eq (.int .u8 x1.toNat), .eq (.pointer (some ⟨B, 0, none⟩)), .eq (.int .u8 LO), .eq (.bool false), .eq (.bool false), .eq (.bool false), .eq (.pointer (some ⟨B, 1, none⟩)), .eq (.int .u8 HI), .eq (.slice (some ⟨b, off, none⟩) t.size t.size), .eq (.pointer (some ⟨b, off + 1, none⟩)), .eq (.int .u8 x1.toNat), .eq (.bool false), .eq (.bool false), .eq (.bool false), .eq (.slice (some ⟨b, off, none⟩) t.size t.size), .eq (.pointer (some ⟨b, off + 2, none⟩)), .eq (.int .u8 x2.toNat), .eq (.bool false), .eq (.bool false), .eq (.bool false), .eq (.slice (some ⟨b, off, none⟩) t.size t.size), .eq (.pointer (some ⟨b, off + 2, none⟩)), .eq (.int .u8 x2.toNat), .eq (.bool false), .eq (.bool false), .eq (.bool false), .eq (.slice (some ⟨b, off, none⟩) t.size t.size), .eq (.pointer (some ⟨b, off + 3, none⟩)), .eq (.int .u8 x3.toNat), .eq (.bool false), .eq (.bool false), .eq (.bool false), .eq (.slice (some ⟨b, off, none⟩) t.size t.size), .eq (.pointer (some ⟨b, off + 3, none⟩)), .eq (.int .u8 x3.toNat), .eq (.bool true), .eq (.bool true)] (by kernel_rfl) (by kernel_rfl) (by kernel_rfl) (by kernel_rfl) ?_ ?_
            ·all_goals
              refine each_5 ?_ ?_ ?_ ?_ ?_ (each_5 ?_ ?_ ?_ ?_ ?_ (each_5 ?_ ?_ ?_ ?_ ?_ (each_5 ?_ ?_ ?_ ?_ ?_ (each_5 ?_ ?_ ?_ ?_ ?_ (each_5 ?_ ?_ ?_ ?_ ?_ (each_5 ?_ ?_ ?_ ?_ ?_ (each_5 ?_ ?_ ?_ ?_ ?_ (each_c ?_ (each_c ?_ (each_c ?_ (each_n)))))))))))
              ·intro w1 hg Ar seen
               have s0 := seen.sl 0 (.slice (some ⟨b, off, none⟩) t.size t.size)
               refine does_plain rfl fun K Q' hK => ?_
               go_simp; exact hK _ _ (Grow.refl _) rfl
              ·intro w1 hg Ar seen
               have e0 := seen.de 0 143
               refine does_plain rfl fun K Q' hK => ?_
               go_simp; exact hK _ _ (Grow.refl _) rfl
              ·intro w1 hg Ar seen
               have e1 := seen.de 1 144
               refine does_plain rfl fun K Q' hK => ?_
               go_simp; exact hK _ _ (Grow.refl _) rfl
              ·intro w1 hg Ar seen
               have e2 := seen.de 2 145
               refine does_plain rfl fun K Q' hK => ?_
               go_simp; exact hK _ _ (Grow.refl _) rfl
              ·intro w1 hg Ar seen
               have e3 := seen.de 3 146
               have s0 := seen.sl 0 (.slice (some ⟨b, off, none⟩) t.size t.size)
               refine does_on rfl (by kernel_rfl) e3 fun K Q' hK => ?_
               clear e3
               go_simp; exact hK _ _ (Grow.refl _) rfl
              ·intro w1 hg Ar seen
               have e4 := seen.de 4 147
               have e3 := seen.de 3 146
               refine does_on rfl (by kernel_rfl) e3 fun K Q' hK => ?_
               clear e3
               go_simp; exact hK _ _ (Grow.refl _) rfl
              ·intro w1 hg Ar seen
               have e5 := seen.de 5 148
               have e3 := seen.de 3 146
               refine does_on rfl (by kernel_rfl) e3 fun K Q' hK => ?_
               clear e3
               have hc := cell_later hg CX1.out
               go_simp; exact hK _ _ (Grow.refl _) rfl
              ·intro w1 hg Ar seen
               have e3 := seen.de 3 146
               have s6 := seen.sl 6 (.pointer (some ⟨B, 0, none⟩))
               refine does_on rfl (by kernel_rfl) e3 fun K Q' hK => ?_
               clear e3
               go_simp; exact hK _ _ (Grow.refl _) rfl
              ·intro w1 hg Ar seen
               have e7 := seen.de 7 150
               have e3 := seen.de 3 146
               refine does_on rfl (by kernel_rfl) e3 fun K Q' hK => ?_
               clear e3
               have hc := cell_later hg A0.out
               go_simp; exact hK _ _ (Grow.refl _) rfl
              ·intro w1 hg Ar seen
               have e6 := seen.de 6 149
               have e8 := seen.de 8 151
               have e3 := seen.de 3 146
               refine does_on rfl (by kernel_rfl) e3 fun K Q' hK => ?_
               clear e3
               go_simp; exact hK _ _ (Grow.refl _) rfl
              ·intro w1 hg Ar seen
               have e3 := seen.de 3 146
               have e9 := seen.de 9 152
               refine does_plain rfl fun K Q' hK => ?_
               go_simp; exact hK _ _ (Grow.refl _) rfl
              ·intro w1 hg Ar seen
               have e10 := seen.de 10 153
               refine does_plain rfl fun K Q' hK => ?_
               go_simp; exact hK _ _ (Grow.refl _) rfl
              ·intro w1 hg Ar seen
               have e11 := seen.de 11 154
               have s6 := seen.sl 6 (.pointer (some ⟨B, 0, none⟩))
               refine does_on rfl (by kernel_rfl) e11 fun K Q' hK => ?_
               clear e11
               go_simp; exact hK _ _ (Grow.refl _) rfl
              ·intro w1 hg Ar seen
               have e12 := seen.de 12 155
               have e11 := seen.de 11 154
               refine does_on rfl (by kernel_rfl) e11 fun K Q' hK => ?_
               clear e11
               have hc := cell_later hg A1.out
               go_simp; exact hK _ _ (Grow.refl _) rfl
              ·intro w1 hg Ar seen
               have e11 := seen.de 11 154
               have s0 := seen.sl 0 (.slice (some ⟨b, off, none⟩) t.size t.size)
               refine does_on rfl (by kernel_rfl) e11 fun K Q' hK => ?_
               clear e11
               go_simp; exact hK _ _ (Grow.refl _) rfl
              ·intro w1 hg Ar seen
               have e14 := seen.de 14 157
               have e11 := seen.de 11 154
               refine does_on rfl (by kernel_rfl) e11 fun K Q' hK => ?_
               clear e11
               go_simp; exact hK _ _ (Grow.refl _) rfl
              ·intro w1 hg Ar seen
               have e15 := seen.de 15 158
               have e11 := seen.de 11 154
               refine does_on rfl (by kernel_rfl) e11 fun K Q' hK => ?_
               clear e11
               have hc := cell_later hg CX1.out
               go_simp; exact hK _ _ (Grow.refl _) rfl
              ·intro w1 hg Ar seen
               have e13 := seen.de 13 156
               have e16 := seen.de 16 159
               have e11 := seen.de 11 154
               refine does_on rfl (by kernel_rfl) e11 fun K Q' hK => ?_
               clear e11
               go_simp; exact hK _ _ (Grow.refl _) rfl
              ·intro w1 hg Ar seen
               have e11 := seen.de 11 154
               have e17 := seen.de 17 160
               refine does_plain rfl fun K Q' hK => ?_
               go_simp; exact hK _ _ (Grow.refl _) rfl
              ·intro w1 hg Ar seen
               have e18 := seen.de 18 161
               refine does_plain rfl fun K Q' hK => ?_
               go_simp; exact hK _ _ (Grow.refl _) rfl
              ·intro w1 hg Ar seen
               have e19 := seen.de 19 162
               have s0 := seen.sl 0 (.slice (some ⟨b, off, none⟩) t.size t.size)
               refine does_on rfl (by kernel_rfl) e19 fun K Q' hK => ?_
               clear e19
               go_simp; exact hK _ _ (Grow.refl _) rfl
              ·intro w1 hg Ar seen
               have e20 := seen.de 20 163
               have e19 := seen.de 19 162
               refine does_on rfl (by kernel_rfl) e19 fun K Q' hK => ?_
               clear e19
               go_simp; exact hK _ _ (Grow.refl _) rfl
              ·intro w1 hg Ar seen
               have e21 := seen.de 21 164
               have e19 := seen.de 19 162
               refine does_on rfl (by kernel_rfl) e19 fun K Q' hK => ?_
               clear e19
               have hc := cell_later hg CX2.out
               go_simp; exact hK _ _ (Grow.refl _) rfl
              ·intro w1 hg Ar seen
               have e22 := seen.de 22 165
               have e19 := seen.de 19 162
               refine does_on rfl (by kernel_rfl) e19 fun K Q' hK => ?_
               clear e19
               go_simp; exact hK _ _ (Grow.refl _) rfl
              ·intro w1 hg Ar seen
               have e19 := seen.de 19 162
               have e23 := seen.de 23 166
               refine does_plain rfl fun K Q' hK => ?_
               go_simp; exact hK _ _ (Grow.refl _) rfl
              ·intro w1 hg Ar seen
               have e24 := seen.de 24 167
               refine does_plain rfl fun K Q' hK => ?_
               go_simp; exact hK _ _ (Grow.refl _) rfl
              ·intro w1 hg Ar seen
               have e25 := seen.de 25 168
               have s0 := seen.sl 0 (.slice (some ⟨b, off, none⟩) t.size t.size)
               refine does_on rfl (by kernel_rfl) e25 fun K Q' hK => ?_
               clear e25
               go_simp; exact hK _ _ (Grow.refl _) rfl
              ·intro w1 hg Ar seen
               have e26 := seen.de 26 169
               have e25 := seen.de 25 168
               refine does_on rfl (by kernel_rfl) e25 fun K Q' hK => ?_
               clear e25
               go_simp; exact hK _ _ (Grow.refl _) rfl
              ·intro w1 hg Ar seen
               have e27 := seen.de 27 170
               have e25 := seen.de 25 168
               refine does_on rfl (by kernel_rfl) e25 fun K Q' hK => ?_
               clear e25
               have hc := cell_later hg CX2.out
               go_simp; exact hK _ _ (Grow.refl _) rfl
              ·intro w1 hg Ar seen
               have e28 := seen.de 28 171
               have e25 := seen.de 25 168
               refine does_on rfl (by kernel_rfl) e25 fun K Q' hK => ?_
               clear e25
               go_simp; exact hK _ _ (Grow.refl _) rfl
              ·intro w1 hg Ar seen
               have e25 := seen.de 25 168
               have e29 := seen.de 29 172
               refine does_plain rfl fun K Q' hK => ?_
               go_simp; exact hK _ _ (Grow.refl _) rfl
              ·intro w1 hg Ar seen
               have e30 := seen.de 30 173
               refine does_plain rfl fun K Q' hK => ?_
               go_simp; exact hK _ _ (Grow.refl _) rfl
              ·intro w1 hg Ar seen
               have e31 := seen.de 31 174
               have s0 := seen.sl 0 (.slice (some ⟨b, off, none⟩) t.size t.size)
               refine does_on rfl (by kernel_rfl) e31 fun K Q' hK => ?_
               clear e31
               go_simp; exact hK _ _ (Grow.refl _) rfl
              ·intro w1 hg Ar seen
               have e32 := seen.de 32 175
               have e31 := seen.de 31 174
               refine does_on rfl (by kernel_rfl) e31 fun K Q' hK => ?_
               clear e31
               go_simp; exact hK _ _ (Grow.refl _) rfl
              ·intro w1 hg Ar seen
               have e33 := seen.de 33 176
               have e31 := seen.de 31 174
               refine does_on rfl (by kernel_rfl) e31 fun K Q' hK => ?_
               clear e31
               have hc := cell_later hg CX3.out
               go_simp; exact hK _ _ (Grow.refl _) rfl
              ·intro w1 hg Ar seen
               have e34 := seen.de 34 177
               have e31 := seen.de 31 174
               refine does_on rfl (by kernel_rfl) e31 fun K Q' hK => ?_
               clear e31
               go_simp; exact hK _ _ (Grow.refl _) rfl
              ·intro w1 hg Ar seen
               have e31 := seen.de 31 174
               have e35 := seen.de 35 178
               refine does_plain rfl fun K Q' hK => ?_
               go_simp; exact hK _ _ (Grow.refl _) rfl
              ·intro w1 hg Ar seen
               have e36 := seen.de 36 179
               refine does_plain rfl fun K Q' hK => ?_
               go_simp; exact hK _ _ (Grow.refl _) rfl
              ·intro w1 hg Ar seen
               have e37 := seen.de 37 180
               have s0 := seen.sl 0 (.slice (some ⟨b, off, none⟩) t.size t.size)
               refine does_on rfl (by kernel_rfl) e37 fun K Q' hK => ?_
               clear e37
               go_simp; exact hK _ _ (Grow.refl _) rfl
              ·intro w1 hg Ar seen
               have e38 := seen.de 38 181
               have e37 := seen.de 37 180
               refine does_on rfl (by kernel_rfl) e37 fun K Q' hK => ?_
               clear e37
               go_simp; exact hK _ _ (Grow.refl _) rfl
              ·intro w1 hg Ar seen
               have e39 := seen.de 39 182
               have e37 := seen.de 37 180
               refine does_on rfl (by kernel_rfl) e37 fun K Q' hK => ?_
               clear e37
               have hc := cell_later hg CX3.out
               go_simp; exact hK _ _ (Grow.refl _) rfl
              ·intro w1 hg Ar seen
               have e40 := seen.de 40 183
               have e37 := seen.de 37 180
               refine does_on rfl (by kernel_rfl) e37 fun K Q' hK => ?_
               clear e37
               go_simp; exact hK _ _ (Grow.refl _) rfl
              ·intro w1 hg Ar seen
               have e37 := seen.de 37 180
               have e41 := seen.de 41 184
               refine does_plain rfl fun K Q' hK => ?_
               go_simp; exact hK _ _ (Grow.refl _) rfl
            intro w1 hg
            refine upon_w' (js := [0, 1, 2, 3, 4, 5, 6, 7, 8, 9, 10, 11, 12, 13, 14, 15, 16, 17, 18, 19, 20, 21, 22, 23, 24, 25, 26, 27, 28, 29, 30, 31, 32, 33, 34, 35, 36, 37, 38, 39, 40, 41, 42]) (by rfl) ?_
            refine upon_e (some 143) (upon_e (some 144) (upon_e (some 145) (upon_e (some 146) (upon_e (some 147) (upon_e (some 148) (upon_e (some 149) (upon_e (some 150) (upon_e (some 151) (upon_e (some 152) (upon_e (some 153) (upon_e (some 154) (upon_e (some 155) (upon_e (some 156) (upon_e (some 157) (upon_e (some 158) (upon_e (some 159) (upon_e (some 160) (upon_e (some 161) (upon_e (some 162) (upon_e (some 163) (upon_e (some 164) (upon_e (some 165) (upon_e (some 166) (upon_e (some 167) (upon_e (some 168) (upon_e (some 169) (upon_e (some 170) (upon_e (some 171) (upon_e (some 172) (upon_e (some 173) (upon_e (some 174) (upon_e (some 175) (upon_e (some 176) (upon_e (some 177) (upon_e (some 178) (upon_e (some 179) (upon_e (some 180) (upon_e (some 181) (upon_e (some 182) (upon_e (some 183) (upon_e (some 184) (upon_e (some 185) (upon_n ?_)))))))))))))))))))))))))))))))))))))))))))
            go_simp
            have HB' := hid (HB.out.trans (Below.mono hg HB.out.size))
            clear HB
            have HB := HB'
            clear HB'
            clear hg
            go_simp
            go_wp2_with fail
            go_ret
            exact ⟨by rw [HF.out]; rfl, HB.out⟩
           ·have q6z : ¬ ((191 : Int) < (x3.toNat : Int)) := by omega
            have HF : Hid (ANS = Lib.validD (t.data.toList.drop 4)) := by
             show _ = _
             have h := HL3.out
             rw [if_neg (by omega)] at h
             exact h
            refine wp_region_each 43 [.eq (.slice (some ⟨b, off, none⟩) t.size t.size), .eq (.int .i64 (t.size : Int)), .eq (.bool false), .eq (.bool false), .eq (.slice (some ⟨b, off, none⟩) t.size t.size), .eq (.pointer (some ⟨b, off + 1, none⟩)), .eq (.int .u8 x1.toNat), .eq (.pointer (some ⟨B, 0, none⟩)), .eq (.int .u8 LO), .eq (.bool false), .eq (.bool false), .eq (.bool false), .eq (.pointer (some ⟨B, 1, none⟩)), .eq (.int .u8 HI), .eq (.slice (some ⟨b, off, none⟩) t.size t.size), .eq (.pointer (some ⟨b, off + 1, none⟩)), .eq (.int .u8 x1.toNat), .eq (.bool false), .eq (.bool false), .eq (.bool false), .eq (.slice (some ⟨b, off, none⟩) t.size t.size), .eq (.pointer (some ⟨b, off + 2, none⟩)), .eq (.int .u8 x2.toNat), .eq (.bool false), .eq (.bool false), .eq (.bool false), .eq (.slice (some ⟨b, off, none⟩) t.size t.size), .eq (.pointer (some ⟨b, off + 2, none⟩)), .eq (.int .u8 x2.toNat), .eq (.bool false), .eq (.bool false), .eq (.bool false), .eq (.slice (some ⟨b, off, none⟩) t.size t.size), .eq (.pointer (some ⟨b, off + 3, none⟩)), .eq (.int .u8 x3.toNat), .eq (.bool false), .eq (.bool false), .eq (.bool false), .eq (.slice (some ⟨b, off, none⟩) t.size t.size), .eq (.pointer (some ⟨b, off + 3, none⟩)), .eq (.int .u8 x3.toNat), .eq (.bool false), .eq (.bool false)] (by kernel_rfl) (by kernel_rfl) (by kernel_rfl) (by kernel_rfl) ?_ ?_
            ·all_goals
              refine each_5 ?_ ?_ ?_ ?_ ?_ (each_5 ?_ ?_ ?_ ?_ ?_ (each_5 ?_ ?_ ?_ ?_ ?_ (each_5 ?_ ?_ ?_ ?_ ?_ (each_5 ?_ ?_ ?_ ?_ ?_ (each_5 ?_ ?_ ?_ ?_ ?_ (each_5 ?_ ?_ ?_ ?_ ?_ (each_5 ?_ ?_ ?_ ?_ ?_ (each_c ?_ (each_c ?_ (each_c ?_ (each_n)))))))))))
              ·intro w1 hg Ar seen
               have s0 := seen.sl 0 (.slice (some ⟨b, off, none⟩) t.size t.size)
               refine does_plain rfl fun K Q' hK => ?_
               go_simp; exact hK _ _ (Grow.refl _) rfl
              ·intro w1 hg Ar seen
               have e0 := seen.de 0 143
               refine does_plain rfl fun K Q' hK => ?_
               go_simp; exact hK _ _ (Grow.refl _) rfl
              ·intro w1 hg Ar seen
               have e1 := seen.de 1 144
               refine does_plain rfl fun K Q' hK => ?_
               go_simp; exact hK _ _ (Grow.refl _) rfl
              ·intro w1 hg Ar seen
               have e2 := seen.de 2 145
               refine does_plain rfl fun K Q' hK => ?_
               go_simp; exact hK _ _ (Grow.refl _) rfl
              ·intro w1 hg Ar seen
               have e3 := seen.de 3 146
               have s0 := seen.sl 0 (.slice (some ⟨b, off, none⟩) t.size t.size)
               refine does_on rfl (by kernel_rfl) e3 fun K Q' hK => ?_
               clear e3
               go_simp; exact hK _ _ (Grow.refl _) rfl
              ·intro w1 hg Ar seen
               have e4 := seen.de 4 147
               have e3 := seen.de 3 146
               refine does_on rfl (by kernel_rfl) e3 fun K Q' hK => ?_
               clear e3
               go_simp; exact hK _ _ (Grow.refl _) rfl
              ·intro w1 hg Ar seen
               have e5 := seen.de 5 148
               have e3 := seen.de 3 146
               refine does_on rfl (by kernel_rfl) e3 fun K Q' hK => ?_
               clear e3
               have hc := cell_later hg CX1.out
               go_simp; exact hK _ _ (Grow.refl _) rfl
              ·intro w1 hg Ar seen
               have e3 := seen.de 3 146
               have s6 := seen.sl 6 (.pointer (some ⟨B, 0, none⟩))
               refine does_on rfl (by kernel_rfl) e3 fun K Q' hK => ?_
               clear e3
               go_simp; exact hK _ _ (Grow.refl _) rfl
              ·intro w1 hg Ar seen
               have e7 := seen.de 7 150
               have e3 := seen.de 3 146
               refine does_on rfl (by kernel_rfl) e3 fun K Q' hK => ?_
               clear e3
               have hc := cell_later hg A0.out
               go_simp; exact hK _ _ (Grow.refl _) rfl
              ·intro w1 hg Ar seen
               have e6 := seen.de 6 149
               have e8 := seen.de 8 151
               have e3 := seen.de 3 146
               refine does_on rfl (by kernel_rfl) e3 fun K Q' hK => ?_
               clear e3
               go_simp; exact hK _ _ (Grow.refl _) rfl
              ·intro w1 hg Ar seen
               have e3 := seen.de 3 146
               have e9 := seen.de 9 152
               refine does_plain rfl fun K Q' hK => ?_
               go_simp; exact hK _ _ (Grow.refl _) rfl
              ·intro w1 hg Ar seen
               have e10 := seen.de 10 153
               refine does_plain rfl fun K Q' hK => ?_
               go_simp; exact hK _ _ (Grow.refl _) rfl
              ·intro w1 hg Ar seen
               have e11 := seen.de 11 154
               have s6 := seen.sl 6 (.pointer (some ⟨B, 0, none⟩))
               refine does_on rfl (by kernel_rfl) e11 fun K Q' hK => ?_
               clear e11
               go_simp; exact hK _ _ (Grow.refl _) rfl
              ·intro w1 hg Ar seen
               have e12 := seen.de 12 155
               have e11 := seen.de 11 154
               refine does_on rfl (by kernel_rfl) e11 fun K Q' hK => ?_
               clear e11
               have hc := cell_later hg A1.out
               go_simp; exact hK _ _ (Grow.refl _) rfl
              ·intro w1 hg Ar seen
               have e11 := seen.de 11 154
               have s0 := seen.sl 0 (.slice (some ⟨b, off, none⟩) t.size t.size)
               refine does_on rfl (by kernel_rfl) e11 fun K Q' hK => ?_
               clear e11
               go_simp; exact hK _ _ (Grow.refl _) rfl
              ·intro w1 hg Ar seen
               have e14 := seen.de 14 157
               have e11 := seen.de 11 154
               refine does_on rfl (by kernel_rfl) e11 fun K Q' hK => ?_
               clear e11
               go_simp; exact hK _ _ (Grow.refl _) rfl
              ·intro w1 hg Ar seen
               have e15 := seen.de 15 158
               have e11 := seen.de 11 154
               refine does_on rfl (by kernel_rfl) e11 fun K Q' hK => ?_
               clear e11
               have hc := cell_later hg CX1.out
               go_simp; exact hK _ _ (Grow.refl _) rfl
              ·intro w1 hg Ar seen
               have e13 := seen.de 13 156
               have e16 := seen.de 16 159
               have e11 := seen.de 11 154
               refine does_on rfl (by kernel_rfl) e11 fun K Q' hK => ?_
               clear e11
               go_simp; exact hK _ _ (Grow.refl _) rfl
              ·intro w1 hg Ar seen
               have e11 := seen.de 11 154
               have e17 := seen.de 17 160
               refine does_plain rfl fun K Q' hK => ?_
               go_simp; exact hK _ _ (Grow.refl _) rfl
              ·intro w1 hg Ar seen
               have e18 := seen.de 18 161
               refine does_plain rfl fun K Q' hK => ?_
               go_simp; exact hK _ _ (Grow.refl _) rfl
              ·intro w1 hg Ar seen
               have e19 := seen.de 19 162
               have s0 := seen.sl 0 (.slice (some ⟨b, off, none⟩) t.size t.size)
               refine does_on rfl (by kernel_rfl) e19 fun K Q' hK => ?_
               clear e19
               go_simp; exact hK _ _ (Grow.refl _) rfl
              ·intro w1 hg Ar seen
               have e20 := seen.de 20 163
               have e19 := seen.de 19 162
               refine does_on rfl (by kernel_rfl) e19 fun K Q' hK => ?_
               clear e19
               go_simp; exact hK _ _ (Grow.refl _) rfl
              ·intro w1 hg Ar seen
               have e21 := seen.de 21 164
               have e19 := seen.de 19 162
               refine does_on rfl (by kernel_rfl) e19 fun K Q' hK => ?_
               clear e19
               have hc := cell_later hg CX2.out
               go_simp; exact hK _ _ (Grow.refl _) rfl
              ·intro w1 hg Ar seen
               have e22 := seen.de 22 165
               have e19 := seen.de 19 162
               refine does_on rfl (by kernel_rfl) e19 fun K Q' hK => ?_
               clear e19
               go_simp; exact hK _ _ (Grow.refl _) rfl
              ·intro w1 hg Ar seen
               have e19 := seen.de 19 162
               have e23 := seen.de 23 166
               refine does_plain rfl fun K Q' hK => ?_
               go_simp; exact hK _ _ (Grow.refl _) rfl
              ·intro w1 hg Ar seen
               have e24 := seen.de 24 167
               refine does_plain rfl fun K Q' hK => ?_
               go_simp; exact hK _ _ (Grow.refl _) rfl
              ·intro w1 hg Ar seen
               have e25 := seen.de 25 168
               have s0 := seen.sl 0 (.slice (some ⟨b, off, none⟩) t.size t.size)
               refine does_on rfl (by kernel_rfl) e25 fun K Q' hK => ?_
               clear e25
               go_simp; exact hK _ _ (Grow.refl _) rfl
              ·intro w1 hg Ar seen
               have e26 := seen.de 26 169
               have e25 := seen.de 25 168
               refine does_on rfl (by kernel_rfl) e25 fun K Q' hK => ?_
               clear e25
               go_simp; exact hK _ _ (Grow.refl _) rfl
              ·intro w1 hg Ar seen
               have e27 := seen.de 27 170
               have e25 := seen.de 25 168
               refine does_on rfl (by kernel_rfl) e25 fun K Q' hK => ?_
               clear e25
               have hc := cell_later hg CX2.out
               go_simp; exact hK _ _ (Grow.refl _) rfl
              ·intro w1 hg Ar seen
               have e28 := seen.de 28 171
               have e25 := seen.de 25 168
               refine does_on rfl (by kernel_rfl) e25 fun K Q' hK => ?_
               clear e25
               go_simp; exact hK _ _ (Grow.refl _) rfl
              ·intro w1 hg Ar seen
               have e25 := seen.de 25 168
               have e29 := seen.de 29 172
               refine does_plain rfl fun K Q' hK => ?_
               go_simp; exact hK _ _ (Grow.refl _) rfl
              ·intro w1 hg Ar seen
               have e30 := seen.de 30 173
               refine does_plain rfl fun K Q' hK => ?_
               go_simp; exact hK _ _ (Grow.refl _) rfl
              ·intro w1 hg Ar seen
               have e31 := seen.de 31 174
               have s0 := seen.sl 0 (.slice (some ⟨b, off, none⟩) t.size t.size)
               refine does_on rfl (by kernel_rfl) e31 fun K Q' hK => ?_
               clear e31
               go_simp; exact hK _ _ (Grow.refl _) rfl
              ·intro w1 hg Ar seen
               have e32 := seen.de 32 175
               have e31 := seen.de 31 174
               refine does_on rfl (by kernel_rfl) e31 fun K Q' hK => ?_
               clear e31
               go_simp; exact hK _ _ (Grow.refl _) rfl
              ·intro w1 hg Ar seen
               have e33 := seen.de 33 176
               have e31 := seen.de 31 174
               refine does_on rfl (by kernel_rfl) e31 fun K Q' hK => ?_
               clear e31
               have hc := cell_later hg CX3.out
               go_simp; exact hK _ _ (Grow.refl _) rfl
              ·intro w1 hg Ar seen
               have e34 := seen.de 34 177
               have e31 := seen.de 31 174
               refine does_on rfl (by kernel_rfl) e31 fun K Q' hK => ?_
               clear e31
               go_simp; exact hK _ _ (Grow.refl _) rfl
              ·intro w1 hg Ar seen
               have e31 := seen.de 31 174
               have e35 := seen.de 35 178
               refine does_plain rfl fun K Q' hK => ?_
               go_simp; exact hK _ _ (Grow.refl _) rfl
              ·intro w1 hg Ar seen
               have e36 := seen.de 36 179
               refine does_plain rfl fun K Q' hK => ?_
               go_simp; exact hK _ _ (Grow.refl _) rfl
              ·intro w1 hg Ar seen
               have e37 := seen.de 37 180
               have s0 := seen.sl 0 (.slice (some ⟨b, off, none⟩) t.size t.size)
               refine does_on rfl (by kernel_rfl) e37 fun K Q' hK => ?_
               clear e37
               go_simp; exact hK _ _ (Grow.refl _) rfl
              ·intro w1 hg Ar seen
               have e38 := seen.de 38 181
               have e37 := seen.de 37 180
               refine does_on rfl (by kernel_rfl) e37 fun K Q' hK => ?_
               clear e37
               go_simp; exact hK _ _ (Grow.refl _) rfl
              ·intro w1 hg Ar seen
               have e39 := seen.de 39 182
               have e37 := seen.de 37 180
               refine does_on rfl (by kernel_rfl) e37 fun K Q' hK => ?_
               clear e37
               have hc := cell_later hg CX3.out
               go_simp; exact hK _ _ (Grow.refl _) rfl
              ·intro w1 hg Ar seen
               have e40 := seen.de 40 183
               have e37 := seen.de 37 180
               refine does_on rfl (by kernel_rfl) e37 fun K Q' hK => ?_
               clear e37
               go_simp; exact hK _ _ (Grow.refl _) rfl
              ·intro w1 hg Ar seen
               have e37 := seen.de 37 180
               have e41 := seen.de 41 184
               refine does_plain rfl fun K Q' hK => ?_
               go_simp; exact hK _ _ (Grow.refl _) rfl
            intro w1 hg
            refine upon_w' (js := [0, 1, 2, 3, 4, 5, 6, 7, 8, 9, 10, 11, 12, 13, 14, 15, 16, 17, 18, 19, 20, 21, 22, 23, 24, 25, 26, 27, 28, 29, 30, 31, 32, 33, 34, 35, 36, 37, 38, 39, 40, 41, 42]) (by rfl) ?_
            refine upon_e (some 143) (upon_e (some 144) (upon_e (some 145) (upon_e (some 146) (upon_e (some 147) (upon_e (some 148) (upon_e (some 149) (upon_e (some 150) (upon_e (some 151) (upon_e (some 152) (upon_e (some 153) (upon_e (some 154) (upon_e (some 155) (upon_e (some 156) (upon_e (some 157) (upon_e (some 158) (upon_e (some 159) (upon_e (some 160) (upon_e (some 161) (upon_e (some 162) (upon_e (some 163) (upon_e (some 164) (upon_e (some 165) (upon_e (some 166) (upon_e (some 167) (upon_e (some 168) (upon_e (some 169) (upon_e (some 170) (upon_e (some 171) (upon_e (some 172) (upon_e (some 173) (upon_e (some 174) (upon_e (some 175) (upon_e (some 176) (upon_e (some 177) (upon_e (some 178) (upon_e (some 179) (upon_e (some 180) (upon_e (some 181) (upon_e (some 182) (upon_e (some 183) (upon_e (some 184) (upon_e (some 185) (upon_n ?_)))))))))))))))))))))))))))))))))))))))))))
            go_simp
            have HB' := hid (HB.out.trans (Below.mono hg HB.out.size))
            clear HB
            have HB := HB'
            clear HB'
            have Tt' := hid (Tt.out.below hg)
            clear Tt hg C A0 A1
            have Tt := Tt'
            clear Tt'
            go_simp
            obtain ⟨at9, t9, ht9, zt9, tbt9, slt9⟩ := Tt.out.sl 4 4 rfl (by omega)
            have Tt9 := hid tbt9
            have Yt9 := hid zt9
            clear tbt9 zt9
            have HVt9 : Hid (Lib.validD t9.data.toList = ANS) := by show _ = _; rw [ht9, Lib.ext_list, HF.out]
            clear ht9
            go_wp2_with fail
            have HR : VSt ANS w _ _ := ⟨⟨_, t9, rfl, Tt9.out, HVt9.out, (by have := Yt9.out; omega), HB.out⟩⟩
            go_roundw
            case rel => first | exact HR | ((repeat apply Exists.intro); exact HR) | ((repeat apply Exists.intro); exact ⟨HR, rfl⟩)
            case measure => (simp [lenOf] <;> (have := Yt9.out; omega))
    have e2 : ¬ ((X : Int) % 8 = 2) := by have := HSZ.out; omega
    have e3 : ¬ ((X : Int) % 8 = 3) := by have := HSZ.out; omega
    have e4 : ¬ ((X : Int) % 8 = 4) := by have := HSZ.out; omega
    have e2b : (((X : Int) % 8) == 2) = false := by have := HSZ.out; simp; omega
    have e3b : (((X : Int) % 8) == 3) = false := by have := HSZ.out; simp; omega
    have e4b : (((X : Int) % 8) == 4) = false := by have := HSZ.out; simp; omega
    have HF : Hid (ANS = false) := by
     have h := HL.out
     simp only [Lib.checkN, s2, s3, s4, if_false] at h
     exact h
    have s8 : SZ < 8 := by have := HSZ.out; omega
    have w8 : IntKind.i64.wrap (SZ : Int) = SZ := IntWalk.i64_in _ (by omega)
    have f2 : ((SZ : Int) == 2) = false := by simp; omega
    have f3 : ((SZ : Int) == 3) = false := by simp; omega
    have f4 : ((SZ : Int) == 4) = false := by simp; omega
    go_wp2_with fail
    all_goals (go_ret; exact ⟨by rw [HF.out]; rfl, HB.out.alloc HB.out.size _⟩)
  ·have h0z : ¬ ((0 : Int) < (t.size : Int)) := by omega
   have ht0 : t.data.toList = [] := List.eq_nil_of_length_eq_zero (by rw [← Lib.size_eq]; omega)
   have HA : Hid (ANS = true) := by have := HV.out; rw [ht0, Lib.validD_nil] at this; exact this.symm
   go_wp2_with fail
   go_ret
   exact ⟨by rw [HA.out]; rfl, HB.out⟩
end Go.Proofs.YteenglgnakenmaaDoor
