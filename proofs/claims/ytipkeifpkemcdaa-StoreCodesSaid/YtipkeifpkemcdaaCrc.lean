/- The program's sum and the reference's: what each call answers. -/
import Derived.Test.YtipkeifpkemcdaaRows
import Derived.Test.YtipkeifpkemcdaaMem
import Derived.Test.YtipkeifpkemcdaaCrcPlain
import Derived.WalkLawsBesides
namespace Go.Proofs.Ytipkeifpkemcdaa
open Go.RowKit
set_option linter.unusedVariables false
set_option linter.unusedSimpArgs false

theorem u32_wrap (X : BitVec 32) : IntKind.u32.wrap (X.toNat : Int) = (X.toNat : Int) := by
  have := X.isLt
  rw [IntKind.wrap_u32]; omega
theorem ofInt_u32 (X : BitVec 32) : BitVec.ofInt IntKind.u32.bits (X.toNat : Int) = X := by
  show BitVec.ofInt 32 (X.toNat : Int) = X
  rw [BitVec.ofInt_natCast, BitVec.ofNat_toNat, BitVec.setWidth_eq]
theorem bits_xor32 (X Y : BitVec 32) : bits .xor .u32 (X.toNat : Int) (Y.toNat : Int) = ((X ^^^ Y).toNat : Int) := by
  unfold bits
  rw [ofInt_u32, ofInt_u32]
  exact u32_wrap _
theorem bits_and32 (X Y : BitVec 32) : bits .and .u32 (X.toNat : Int) (Y.toNat : Int) = ((X &&& Y).toNat : Int) := by
  unfold bits
  rw [ofInt_u32, ofInt_u32]
  exact u32_wrap _
theorem neg32 (X : BitVec 32) : (-(X.toNat : Int)) % 4294967296 = ((-X).toNat : Int) := by
  have := X.isLt
  rw [BitVec.toNat_neg]; omega
theorem half32 (X : BitVec 32) : (X.toNat : Int) / (2 : Int) = ((X >>> 1).toNat : Int) := by
  rw [BitVec.toNat_ushiftRight, Nat.shiftRight_eq_div_pow]; omega
theorem rnd_walk (Y : BitVec 32) : bits .xor .u32 ((Y.toNat : Int) / 2) (bits .and .u32 3988292384 (-bits .and .u32 (Y.toNat : Int) 1 % 4294967296)) = ((rnd Y).toNat : Int) := by
  have h1 := bits_and32 Y 1#32
  have e1 : ((1#32).toNat : Int) = 1 := rfl
  rw [e1] at h1
  rw [h1, neg32]
  have h2 := bits_and32 3988292384#32 (-(Y &&& 1#32))
  have e2 : ((3988292384#32).toNat : Int) = 3988292384 := rfl
  rw [e2] at h2
  rw [h2, half32, bits_xor32]
  rfl
theorem u32_val {a b : Int} (h : a = b) : Value.int .u32 a = Value.int .u32 b := by rw [h]
theorem flip_walk (S : BitVec 32) : bits .xor .u32 IntKind.u32.max (S.toNat : Int) = ((S ^^^ 4294967295#32).toNat : Int) := by
  have h := bits_xor32 4294967295#32 S
  have e : ((4294967295#32).toNat : Int) = IntKind.u32.max := rfl
  rw [e] at h
  rw [h, BitVec.xor_comm]
theorem byte_walk (X : BitVec 32) (c : UInt8) : bits .xor .u32 (X.toNat : Int) (c.toNat : Int) = ((X ^^^ BitVec.ofNat 32 c.toNat).toNat : Int) := by
  have hc := c.toNat_lt
  have h := bits_xor32 X (BitVec.ofNat 32 c.toNat)
  rw [BitVec.toNat_ofNat, Nat.mod_eq_of_lt (by omega)] at h
  exact h

theorem crc_snoc (l : List UInt8) (k : Nat) (hk : k < l.length) : l.take (k + 1) = l.take k ++ [l.getD k 0] := by
  rw [List.take_succ_eq_append_getElem hk, List.getD_eq_getElem?_getD, List.getElem?_eq_getElem hk]; rfl

/-- crc.More -/
theorem more_any (a : Option Addr) (n c : Nat) (l : List UInt8) (S : BitVec 32) (w : World) (hr : RdB w a n l) (hbig : n ≤ maxLen) :
    Calls Try.prog 97 #[.int .u32 S.toNat, .slice a n c] w fun e w' => e = .returned (.int .u32 ((crc S l).toNat : Int)) ∧ w = w' := by
  unfold maxLen at hbig
  have hlen := hr.len
  go_enter Try.func97, Try.ntmps97
  have HL := hid hlen; clear hlen
  go_wp2
  rw [flip_walk]
  go_loop [0, 11] (fun t i => ∃ k : Nat, k ≤ n ∧ i = .int .i64 k ∧ t = .int .u32 (((l.take k).foldl upd (S ^^^ 4294967295#32)).toNat : Int)) (fun _ i => n - (intOf i).toNat)
  case atStart => exact ⟨0, Nat.zero_le _, rfl, rfl⟩
  case round =>
    obtain ⟨k, hk, rfl, rfl⟩ := hrel
    by_cases hlt : k < n
    · obtain ⟨b, off, rfl, hc⟩ := hr.cell k hlt
      have hcell : w.cell? ⟨b, off + k, none⟩ = some (.int .u8 ((l.getD k 0).toNat : Int)) := hc k hlt
      clear hc
      have hbyte := (l.getD k 0).toNat_lt
      have hts := crc_snoc l k (HL.out ▸ hlt)
      have HF : Hid ((l.take (k + 1)).foldl upd (S ^^^ 4294967295#32) = upd ((l.take k).foldl upd (S ^^^ 4294967295#32)) (l.getD k 0)) := by
        show _ = _
        rw [hts, List.foldl_append]; rfl
      clear hts
      generalize l.getD k 0 = x at *
      generalize (l.take k).foldl upd (S ^^^ 4294967295#32) = X at *
      go_wp2
      rw [byte_walk]
      go_loop [0, 19] (fun t i => ∃ j : Nat, j ≤ 8 ∧ i = .int .i64 j ∧ t = .int .u32 ((upTo rnd j (X ^^^ BitVec.ofNat 32 x.toNat)).toNat : Int)) (fun _ i => 8 - (intOf i).toNat)
      case atStart => exact ⟨0, Nat.zero_le _, rfl, rfl⟩
      case round =>
        obtain ⟨j, hj, rfl, rfl⟩ := hrel
        by_cases hlj : j < 8
        · go_wp2
          go_round
          case rel => exact ⟨j + 1, by omega, by go_num, u32_val (rnd_walk _)⟩
          case measure => simp [intOf]; omega
        · obtain rfl : j = 8 := by omega
          go_wp2
          go_round
          case rel => exact ⟨_, _, _, ⟨k + 1, by omega, by go_num, u32_val (by rw [HF.out]; rfl)⟩, rfl, rfl, rfl⟩
          case measure => simp [intOf]; omega
    · obtain rfl : k = n := by omega
      have HT : Hid (l.take k = l) := by show _ = _; rw [← HL.out, List.take_length]
      go_wp2
      go_ret
      refine ⟨?_, rfl⟩
      rw [HT.out, flip_walk]
      rfl

/-- crc.Sum -/
theorem sum_any (a : Option Addr) (n c : Nat) (l : List UInt8) (w : World) (hr : RdB w a n l) (hbig : n ≤ maxLen) :
    Calls Try.prog 87 #[.slice a n c] w fun e w' => e = .returned (.int .u32 ((crc 0#32 l).toNat : Int)) ∧ w = w' := by
  have HR := hid hr; clear hr
  go_enter Try.func87, Try.ntmps87
  go_wp2_with (go_at_call 97; refine (more_any a n c l 0#32 _ HR.out hbig).mono ?_; rintro e w' ⟨rfl, rfl⟩)
  go_ret
  exact ⟨rfl, rfl⟩

theorem rnd_ref_odd (Y : BitVec 32) (h : (Y.toNat : Int) % 2 = 1) : bits .xor .u32 ((Y.toNat : Int) / 2) 3988292384 = ((rnd Y).toNat : Int) := by
  have h1 : Y &&& 1#32 = 1#32 := by
    apply BitVec.eq_of_toNat_eq
    rw [BitVec.toNat_and]
    show Y.toNat &&& 1 = 1
    rw [Nat.and_one_is_mod]; omega
  rw [rnd_eq, rndR, if_pos h1, half32]
  exact bits_xor32 _ 3988292384#32
theorem rnd_ref_even (Y : BitVec 32) (h : (Y.toNat : Int) % 2 ≠ 1) : (Y.toNat : Int) / 2 = ((rnd Y).toNat : Int) := by
  have h1 : ¬ Y &&& 1#32 = 1#32 := by
    intro hc
    have hc' := congrArg BitVec.toNat hc
    rw [BitVec.toNat_and] at hc'
    have hc'' : Y.toNat &&& 1 = 1 := hc'
    rw [Nat.and_one_is_mod] at hc''
    omega
  rw [rnd_eq, rndR, if_neg h1, half32]
end Go.Proofs.Ytipkeifpkemcdaa
