/- locksmithhand: Id, in; what Object makes, as data. -/
import Derived.Test.YtdlkobmlnpijgaaDoorObj
import Derived.Test.YtdlkobmlnpijgaaDoorHand
import Derived.Deep.DeepMust
import Derived.Laws.StructEq
namespace Go.Proofs.YtdlkobmlnpijgaaDoor
open Go.RowKit
set_option linter.unusedVariables false
set_option linter.unusedSimpArgs false
set_option maxRecDepth 100000
set_option maxHeartbeats 1600000

structure RawD where
  kind : Int
  a : Int
  b : Int
  c : Int
deriving Inhabited
def RawD.ok (x : RawD) : Prop := (-9223372036854775808 ≤ x.kind ∧ x.kind ≤ 9223372036854775807) ∧ (-9223372036854775808 ≤ x.a ∧ x.a ≤ 9223372036854775807) ∧ (-9223372036854775808 ≤ x.b ∧ x.b ≤ 9223372036854775807) ∧ (-9223372036854775808 ≤ x.c ∧ x.c ≤ 9223372036854775807)
def RawD.cells (x : RawD) : Array Value := #[.int .i64 x.kind, .int .i64 x.a, .int .i64 x.b, .int .i64 x.c]
def pickN (n : Int) (m : Nat) : Nat := (pick n m).toNat
theorem pickN_eq (n : Int) (m : Nat) (h : 1 ≤ m) : pick n m = (pickN n m : Int) := by
  have := pick_lo n m (by omega)
  unfold pickN; omega
theorem pickN_lt (n : Int) (m : Nat) (h : 1 ≤ m) : pickN n m < m := by
  have := pick_lo n m (by omega)
  have := pick_hi n m (by omega)
  unfold pickN; omega
def idL : List ByteArray := [⟨#[49]⟩, ⟨#[50]⟩, ⟨#[51]⟩, ⟨#[52]⟩, ⟨#[53]⟩, ⟨#[54]⟩, ⟨#[55]⟩, ⟨#[49]⟩, ⟨#[50]⟩, ⟨#[51]⟩, ⟨#[57, 57]⟩, ⟨#[120]⟩]
def handId (n : Int) : ByteArray := idL.getD (pickN n 12) ⟨#[]⟩
def strsA (l : List ByteArray) : Array Value := (l.map Value.string).toArray
def intsA (l : List Int) : Array Value := (l.map (Value.int .i64)).toArray
theorem strsA_get (l : List ByteArray) (k : Nat) (h : k < l.length) : (strsA l)[k]? = some (.string (l.getD k ⟨#[]⟩)) := by
  simp [strsA, List.getD_eq_getElem?_getD, h]
theorem intsA_get (l : List Int) (k : Nat) (h : k < l.length) : (intsA l)[k]? = some (.int .i64 (l.getD k 0)) := by
  simp [intsA, List.getD_eq_getElem?_getD, h]
theorem sizeStr : ∀ w : World, (sizeOf 9).run Tryd.prog w = .ok 1 w := fun w => by kernel_rfl
theorem sizeInt : ∀ w : World, (sizeOf 3).run Tryd.prog w = .ok 1 w := fun w => by kernel_rfl
theorem handId_any (n : Int) (w : World) : Calls Tryd.prog 65 #[.int .i64 n] w fun e w' => e = .returned (.string (handId n)) ∧ w = w' := by
  have hbu : ∀ w, (Instr.build 132 #[(0, .string ⟨#[49]⟩), (1, .string ⟨#[50]⟩), (2, .string ⟨#[51]⟩), (3, .string ⟨#[52]⟩), (4, .string ⟨#[53]⟩), (5, .string ⟨#[54]⟩), (6, .string ⟨#[55]⟩), (7, .string ⟨#[49]⟩), (8, .string ⟨#[50]⟩), (9, .string ⟨#[51]⟩), (10, .string ⟨#[57, 57]⟩), (11, .string ⟨#[120]⟩)]).run Tryd.prog w = .ok (.agg (strsA idL)) w := fun w => by kernel_rfl
  have hlt := pickN_lt n 12 (by omega)
  have hget := strsA_get idL (pickN n 12) (by simpa [idL] using hlt)
  have hpe : pick n 12 = (pickN n 12 : Int) := pickN_eq n 12 (by omega)
  have HG := hid hget; have HP := hid hpe; have HL := hid hlt
  clear hget hpe hlt
  unfold handId
  generalize strsA idL = A at *
  go_enter Tryd.func65, Tryd.ntmps65
  go_upto_region 1 with (fail)
  refine wp_region_lit ?_
  refine wpList_build_obj rfl 132 _ rfl #[(0, .string ⟨#[49]⟩), (1, .string ⟨#[50]⟩), (2, .string ⟨#[51]⟩), (3, .string ⟨#[52]⟩), (4, .string ⟨#[53]⟩), (5, .string ⟨#[54]⟩), (6, .string ⟨#[55]⟩), (7, .string ⟨#[49]⟩), (8, .string ⟨#[50]⟩), (9, .string ⟨#[51]⟩), (10, .string ⟨#[57, 57]⟩), (11, .string ⟨#[120]⟩)] (by simp [Act.eval]) _ (hbu _) ?_
  clear hbu
  go_simp
  go_wp2_with fail
  refine (pick_any n 12 _ (by omega) (by omega)).mono ?_
  rintro e w1 ⟨rfl, rfl⟩
  rw [HP.out]
  go_wp2_with (refine wpList_index_row rfl _ _ rfl Tryd.underlying132 sizeStr Tryd.underlying9 rfl A rfl _ rfl (pickN n 12) rfl _ HL.out HG.out ?_)
  go_ret
  exact ⟨rfl, rfl⟩
theorem bytes_ne {x y : ByteArray} (h : y ≠ x) : (y.toList == x.toList) = false := by
  rw [beq_eq_false_iff_ne]
  intro e
  rw [ByteArray.toList_eq, ByteArray.toList_eq] at e
  apply h
  obtain ⟨y⟩ := y
  obtain ⟨x⟩ := x
  exact congrArg ByteArray.mk (Array.toList_inj.1 e)
theorem in_any (a : Option Addr) (n c : Nat) (l : List ByteArray) (x : ByteArray) (r : Bool) (w : World) (h : RdC w a n (l.map Value.string)) (hn : n ≤ 140737488355328) (hr : r = true ↔ x ∈ l) :
    Calls Tryd.prog 67 #[.slice a n c, .string x] w fun e w' => e = .returned (.bool r) ∧ w = w' := by
  have hl : l.length = n := by simpa using h.len
  have H := hid h; have HL := hid hl; have HR := hid hr; clear h hl hr
  go_enter Tryd.func67, Tryd.ntmps67
  go_wp2_with fail
  go_loop [5] (fun y => ∃ k : Nat, k ≤ n ∧ y = .int .i64 k ∧ x ∉ l.take k) (fun y => n - (intOf y).toNat)
  case atStart => exact ⟨0, Nat.zero_le _, rfl, by simp⟩
  case round =>
    obtain ⟨k, hk, rfl, hno⟩ := hrel
    have HN := hid hno; clear hno
    by_cases hlt : k < n
    · obtain ⟨b, off, rfl, hc⟩ := H.out.cell k hlt
      obtain ⟨y, hy⟩ : ∃ y, l[k]? = some y := ⟨l[k]'(by rw [HL.out]; exact hlt), List.getElem?_eq_getElem _⟩
      have hcell : w.cell? ⟨b, off + k, none⟩ = some (.string y) := hc k _ (by rw [List.getElem?_map, hy]; rfl)
      have HY := hid hy; clear hc hy
      by_cases hxy : y = x
      · subst hxy
        have HE : Hid (r = true) := HR.out.2 (List.mem_of_getElem? HY.out)
        go_wp2
        go_ret
        exact ⟨by rw [HE.out]; rfl, rfl⟩
      · have hb := bytes_ne hxy
        have HX := hid hxy; clear hxy
        go_wp2
        go_round
        case rel =>
          refine ⟨k + 1, by omega, by go_num, ?_⟩
          rw [List.take_add_one, HY.out]
          intro hm
          rcases List.mem_append.1 hm with hm | hm
          · exact HN.out hm
          · simp at hm; exact HX.out hm.symm
        case measure => simp [intOf]; omega
    · obtain rfl : k = n := by omega
      have HE : Hid (r = false) := by
        have h1 := HN.out
        rw [List.take_of_length_le (by rw [HL.out]; exact Nat.le_refl _)] at h1
        cases r with
        | false => rfl
        | true => exact absurd (HR.out.1 rfl) h1
      go_wp2
      go_ret
      exact ⟨by rw [HE.out]; rfl, rfl⟩
end Go.Proofs.YtdlkobmlnpijgaaDoor
