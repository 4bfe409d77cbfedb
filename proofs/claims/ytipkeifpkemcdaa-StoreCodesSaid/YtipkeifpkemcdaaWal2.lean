/- wal: half, a head's bytes. -/
import Derived.Test.YtipkeifpkemcdaaWal
import Derived.Test.YtipkeifpkemcdaaDisk6
import Derived.Lib.AppendZeros
namespace Go.Proofs.Ytipkeifpkemcdaa
open Go.RowKit
set_option linter.unusedVariables false
set_option linter.unusedSimpArgs false
set_option maxRecDepth 100000
set_option maxHeartbeats 1600000
def markB : List UInt8 := [76, 79, 67, 75, 83, 77, 84, 72]
/-- A head ahead of its sum; its sector. -/
def headX (e : Nat) (a u : Int) : List UInt8 := markB ++ be 8 e ++ be 4 (u64nat a) ++ be 4 (u64nat u)
theorem headX_len (e : Nat) (a u : Int) : (headX e a u).length = 24 := by simp [headX, markB, be_len]
def headB (e : Nat) (a u : Int) : List UInt8 := padB (headX e a u ++ be 4 (crc 0#32 (headX e a u)).toNat)
theorem headB_len (e : Nat) (a u : Int) : (headB e a u).length = 64 := by
  unfold headB
  rw [padB_len, List.length_append, headX_len, be_len]; decide
def headArr (e : Nat) (a u : Int) : Array Value := #[.int .u64 e, .int .i64 a, .int .i64 u]
theorem WrB.lt {T : TypeId} {W w : World} {l : List UInt8} (h : WrB T W w W.heap.size l) : W.heap.size ≤ w.heap.size := let ⟨_, _, _, hb⟩ := h; hb.size
theorem WrB.below {T : TypeId} {W w w' : World} {p : Nat} {l : List UInt8} (h : WrB T W w p l) (hb : Below w.heap.size w w') (hp : p ≤ w.heap.size) : WrB T W w' p l :=
  let ⟨F, h1, h2, h3⟩ := h
  ⟨F, h1.keep (Chg.of_below hb []) (fun k _ hm => by cases hm), h2, h3.trans (hb.mono hp)⟩
theorem half_any (p : Nat) (s : DSt) (F : List Nat) (w : World) (h : Dk w p s F) (h2 : 2 ≤ s.sec.length) (h3 : s.sec.length ≤ 1099511627776) :
    Calls Try.prog 77 #[.pointer (some ⟨p, 0, none⟩)] w fun e w' => e = .returned (.int .i64 (((s.sec.length - 2) / 2 : Nat) : Int)) ∧ w = w' := by
  have H := hid h; clear h
  obtain ⟨n, hn⟩ : ∃ n, s.sec.length = n := ⟨_, rfl⟩
  rw [hn] at h2 h3 ⊢
  have HN := hid hn; clear hn
  have HQ : Hid (((n : Int) - 2) / 2 = (((n - 2) / 2 : Nat) : Int)) := by show _ = _; omega
  go_enter Try.func77, Try.ntmps77
  go_wp2_with fail
  refine (sectors_any p s F _ H.out).mono ?_
  rintro e w1 ⟨rfl, rfl⟩
  rw [HN.out]
  have hq0 : (0 : Int) ≤ (n : Int) - 2 := by omega
  go_wp2_with fail
  go_ret
  exact ⟨congrArg (fun z => Ending.returned (.int .i64 z)) HQ.out, rfl⟩
theorem headBytes_any (e : Nat) (a u : Int) (w : World) (he : e < 18446744073709551616) :
    Calls Try.prog 84 #[.agg (headArr e a u)] w fun r w' => ∃ a' c', r = .returned (.slice a' 64 c') ∧ w'.ownsRow w.heap.size 5 1 (.slice a' 64 c') 64 ((headB e a u).map B8) ∧ Below w.heap.size w w' := by
  have kc := fun (w : World) (C : Array Value) (n c : Nat) => Lib.run_convert_bytes_const (P := Try.prog) w 24 5 C n c Try.underlying24 Try.underlying5
  unfold headArr
  go_enter Try.func84, Try.ntmps84
  go_wp2_with fail
  refine (oNew_any _).mono ?_
  rintro r w1 ⟨rfl, hw1, hb1, hs1⟩
  have hB0 : (w.alloc (.cells #[.int .u64 (e : Int), .int .i64 a, .int .i64 u] 116)).heap[w.heap.size]? = some (.cells #[.int .u64 (e : Int), .int .i64 a, .int .i64 u] 116 (0, 0)) := block_new _ _
  have hbW : Below w.heap.size w (w.alloc (.cells #[.int .u64 (e : Int), .int .i64 a, .int .i64 u] 116)) := (Below.refl _ _).alloc (Nat.le_refl _) _
  generalize w.alloc (.cells #[.int .u64 (e : Int), .int .i64 a, .int .i64 u] 116) = W at *
  have W1 : Hid (WrB 108 W w1 W.heap.size []) := ⟨[W.heap.size], hw1, by simp, hb1⟩
  have HBW := hid hbW
  have HB0 := hid hB0
  clear hw1 hb1 hs1 hB0 hbW
  have HBK : Hid (∀ wk, Below W.heap.size W wk → wk.heap[w.heap.size]? = some (.cells #[.int .u64 (e : Int), .int .i64 a, .int .i64 u] 116 (0, 0))) := fun wk hb => (hb.block _ (block_lt HB0.out)).trans HB0.out
  generalize hb0 : w.heap.size = b0 at *
  have HB00 := hid hb0; clear hb0
  generalize hp : W.heap.size = p at *
  have HP := hid hp; clear hp
  have LT : Hid (∀ wk l, WrB 108 W wk p l → p ≤ wk.heap.size) := fun wk l h => by rw [← HP.out] at h ⊢; exact h.lt
  go_wp2_with fail
  have W1' := hid (W1.out.below ((Below.refl _ w1).alloc (Nat.le_refl _) (.cells #[.int .u8 76, .int .u8 79, .int .u8 67, .int .u8 75, .int .u8 83, .int .u8 77, .int .u8 84, .int .u8 72] 5 (8, 9))) (LT.out _ _ W1.out))
  obtain ⟨F1, hw1, hF1, hb1⟩ := W1'.out
  refine (oRaw_any p [] F1 _ 8 _ markB _ hw1 (RdB.new w1 markB #[.int .u8 76, .int .u8 79, .int .u8 67, .int .u8 75, .int .u8 83, .int .u8 77, .int .u8 84, .int .u8 72] 5 (8, 9) (by kernel_rfl) 8 rfl w1.heap.size rfl) (by simp) (by simp)).mono ?_
  rintro r w2 ⟨F2, rfl, hw2, hc2, hf2⟩
  have W2 := hid (W1'.out.step hw1 hF1 hb1 hw2 hc2 hf2 (LT.out _ _ W1'.out))
  clear hw1 hF1 hb1 hw2 hc2 hf2 W1 W1' F1 F2
  obtain ⟨F2, hw2, hF2, hb2⟩ := W2.out
  have c0 := cell_of_block (j := 0) (HBK.out _ hb2) rfl
  have HW2 := hid hw2; have HF2 := hid hF2; have HB2 := hid hb2
  clear hw2 hF2 hb2
  go_wp2_with fail
  clear c0
  refine (oU64_any p _ F2 e _ HW2.out he (by simp [markB])).mono ?_
  rintro r w3 ⟨F3, rfl, hw3, hc3, hf3⟩
  have W3 := hid (W2.out.step HW2.out HF2.out HB2.out hw3 hc3 hf3 (LT.out _ _ W2.out))
  clear hw3 hc3 hf3 W2 HW2 HF2 HB2 F2 F3
  obtain ⟨F2, hw2, hF2, hb2⟩ := W3.out
  have c0 := cell_of_block (j := 1) (HBK.out _ hb2) rfl
  have HW2 := hid hw2; have HF2 := hid hF2; have HB2 := hid hb2
  clear hw2 hF2 hb2
  go_wp2_with fail
  clear c0
  refine (oU32_any p _ F2 a _ HW2.out (by simp [markB, be_len])).mono ?_
  rintro r w4 ⟨F3, rfl, hw3, hc3, hf3⟩
  have W4 := hid (W3.out.step HW2.out HF2.out HB2.out hw3 hc3 hf3 (LT.out _ _ W3.out))
  clear hw3 hc3 hf3 W3 HW2 HF2 HB2 F2 F3
  obtain ⟨F2, hw2, hF2, hb2⟩ := W4.out
  have c0 := cell_of_block (j := 2) (HBK.out _ hb2) rfl
  have HW2 := hid hw2; have HF2 := hid hF2; have HB2 := hid hb2
  clear hw2 hF2 hb2
  go_wp2_with fail
  clear c0
  refine (oU32_any p _ F2 u _ HW2.out (by simp [markB, be_len])).mono ?_
  rintro r w5 ⟨F3, rfl, hw3, hc3, hf3⟩
  have W5 := hid (W4.out.step HW2.out HF2.out HB2.out hw3 hc3 hf3 (LT.out _ _ W4.out))
  clear hw3 hc3 hf3 W4 HW2 HF2 HB2 F2 F3
  have hx : [] ++ markB ++ be 8 e ++ be 4 (u64nat a) ++ be 4 (u64nat u) = headX e a u := rfl
  rw [hx] at W5
  clear hx
  obtain ⟨X, hX⟩ : ∃ X, headX e a u = X := ⟨_, rfl⟩
  have hX24 : X.length = 24 := by rw [← hX]; exact headX_len e a u
  rw [hX] at W5
  have HX := hid hX; have HX24 := hid hX24
  clear hX hX24
  go_wp2_with fail
  obtain ⟨F5, hw5, hF5, hb5⟩ := W5.out
  refine (oBytes_any p X F5 _ hw5 (by rw [HX24.out]; omega)).mono ?_
  rintro r w6 ⟨a6, n6, c6, rfl, ho6, hb6⟩
  have hn6 : X.length = n6 := by have := ho6.1; simpa using this
  obtain rfl : n6 = 24 := by rw [← hn6, HX24.out]
  have HR6 := hid (RdB.of_own ho6)
  have W6 := hid (W5.out.below hb6 (LT.out _ _ W5.out))
  clear hn6 ho6 hb6 hw5 hF5 hb5 W5 F5
  go_wp2_with fail
  refine (sum_any a6 24 c6 X _ HR6.out (by decide)).mono ?_
  rintro r w7 ⟨rfl, rfl⟩
  obtain ⟨S, hS⟩ : ∃ S, (crc 0#32 X).toNat = S := ⟨_, rfl⟩
  have hS32 : S < 4294967296 := by rw [← hS]; exact (crc 0#32 X).isLt
  rw [hS]
  have HS := hid hS
  clear hS
  have hsw : IntKind.i64.wrap (S : Int) = (S : Int) := IntWalk.i64_in _ (by omega)
  go_wp2_with fail
  clear hsw
  obtain ⟨F6, hw6, hF6, hb6⟩ := W6.out
  refine (oU32_any p X F6 (S : Int) _ hw6 (by rw [HX24.out]; omega)).mono ?_
  rintro r w8 ⟨F8, rfl, hw8, hc8, hf8⟩
  have W8 := hid (W6.out.step hw6 hF6 hb6 hw8 hc8 hf8 (LT.out _ _ W6.out))
  clear hw6 hF6 hb6 hw8 hc8 hf8 W6 F6 F8 HR6
  rw [u64nat_nat S (by omega)] at W8
  go_wp2_with fail
  obtain ⟨F5, hw5, hF5, hb5⟩ := W8.out
  have hp5 := LT.out _ _ W8.out
  refine (oBytes_any p (X ++ be 4 S) F5 _ hw5 (by rw [List.length_append, HX24.out, be_len]; omega)).mono ?_
  rintro r w9 ⟨a9, n9, c9, rfl, ho9, hb9⟩
  have hn9 : (X ++ be 4 S).length = n9 := by have := ho9.1; simpa using this
  obtain rfl : n9 = 28 := by rw [← hn9, List.length_append, HX24.out, be_len]
  have HO9 := hid (own_lower ho9 hp5)
  have B9 := hid (hb5.trans (hb9.mono hp5))
  have HP9 := hid (Nat.le_trans hp5 hb9.size)
  clear hn9 ho9 hb9 hw5 hF5 hb5 hp5 W8 F5
  go_wp2_with fail
  refine (fill_any p a9 28 c9 (X ++ be 4 S) _ HO9.out (by omega) HP9.out).mono ?_
  rintro r w10 ⟨a10, c10, rfl, ho10, hb10⟩
  have B10 := hid (B9.out.trans hb10)
  have hpd : 28 + padN 28 = 64 := rfl
  rw [hpd] at ho10 ⊢
  have HO10 := hid ho10
  clear ho10 hb10 hpd B9 HO9
  go_wp2_with fail
  go_ret
  have hbp : b0 ≤ p := by rw [← HP.out]; exact Nat.le_of_lt (block_lt HB0.out)
  rw [HB00.out]
  exact ⟨a10, c10, rfl, own_lower (by unfold headB; rw [HX.out, HS.out]; exact HO10.out) hbp, HBW.out.trans (B10.out.mono hbp)⟩
end Go.Proofs.Ytipkeifpkemcdaa
