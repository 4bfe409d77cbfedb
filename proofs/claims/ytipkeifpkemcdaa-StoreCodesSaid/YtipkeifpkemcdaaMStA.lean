/- Several texts in one. -/
import Derived.Test.YtipkeifpkemcdaaRd6
import Derived.Test.YtipkeifpkemcdaaAgg
import Derived.Test.YtipkeifpkemcdaaSl
import Derived.Test.YtipkeifpkemcdaaWalF
import Derived.Test.YtipkeifpkemcdaaOctet
import Derived.Lib.ConvBytes
import Derived.Test.YtipkeifpkemcdaaEqual
import Derived.Test.YtipkeifpkemcdaaDisk3
import Derived.Great.BuildSlice
namespace Go.Proofs.Ytipkeifpkemcdaa
open Go.RowKit
set_option linter.unusedVariables false
set_option linter.unusedSimpArgs false
def pS (p : PS) : List UInt8 × PS := (shortOf p.1 p.2, (shortRest p.1 p.2, shortLack p.1 p.2))
theorem pI_nat {n k : Nat} {r : List UInt8} (hn : n ≤ 8) (h1 : k < 256 ^ n) (h2 : k < 9223372036854775808) : pI (n : Int) (be n k ++ r, false) = ((k : Int), (r, false)) := by
  obtain ⟨a, b, c⟩ := take_be n k r
  unfold pI
  simp only [a, b, c]
  rw [num_be n _ hn, Nat.mod_eq_of_lt h1, asInt_small _ (by omega)]
theorem p1n {k : Nat} {r : List UInt8} (h : k ≤ 255) : pI 1 (be 1 k ++ r, false) = ((k : Int), (r, false)) := pI_nat (n := 1) (by decide) (by show k < 256; omega) (by omega)
theorem p2n {k : Nat} {r : List UInt8} (h : k ≤ 65535) : pI 2 (be 2 k ++ r, false) = ((k : Int), (r, false)) := pI_nat (n := 2) (by decide) (by show k < 65536; omega) (by omega)
theorem pS_be {l r : List UInt8} (h : l.length ≤ 65535) : pS (be 2 l.length ++ l ++ r, false) = (l, (r, false)) := by
  obtain ⟨a, b, c⟩ := take_short l r h
  unfold pS
  simp only [a, b, c]
/-- A change of a pair. -/
structure Cg where
  key : List UInt8 := []
  has : Bool := false
  val : List UInt8 := []
instance : Inhabited Cg := ⟨{}⟩
def Cg.ok (c : Cg) : Bool := decide (c.key ≠ [] ∧ c.key.length ≤ 100 ∧ c.val.length ≤ 65535 ∧ (c.has = true ∨ c.val = []))
def layC (c : Cg) : List UInt8 := be 2 c.key.length ++ c.key ++ (if c.has = true then be 1 1 ++ (be 2 c.val.length ++ c.val) else be 1 0)
def layCs (l : List Cg) : List UInt8 := be 2 l.length ++ l.flatMap layC
def okCs (l : List Cg) : Bool := decide (l.length ≤ 1000) && l.all Cg.ok
theorem Cg.ok_iff {c : Cg} : c.ok = true ↔ c.key ≠ [] ∧ c.key.length ≤ 100 ∧ c.val.length ≤ 65535 ∧ (c.has = true ∨ c.val = []) := by unfold Cg.ok; exact decide_eq_true_iff
theorem okCs_iff {l : List Cg} : okCs l = true ↔ l.length ≤ 1000 ∧ ∀ c ∈ l, c.ok = true := by unfold okCs; simp [List.all_eq_true]
theorem layC_len {c : Cg} (h : c.ok = true) : (layC c).length ≤ 65700 := by
  obtain ⟨h1, h2, h3, h4⟩ := Cg.ok_iff.1 h
  unfold layC
  split <;> simp [be_len] <;> omega
theorem flat_len : ∀ {l : List Cg}, (∀ c ∈ l, c.ok = true) → (l.flatMap layC).length ≤ 65700 * l.length
  | [], _ => Nat.zero_le _
  | c :: l, h => by
    have h1 := layC_len (h c (by simp))
    have h2 := flat_len (fun d hd => h d (List.mem_cons_of_mem _ hd) : ∀ d ∈ l, d.ok = true)
    rw [List.flatMap_cons, List.length_append, List.length_cons]
    omega
theorem layCs_len {l : List Cg} (h : okCs l = true) : (layCs l).length ≤ 65700002 := by
  obtain ⟨h1, h2⟩ := okCs_iff.1 h
  have h3 := flat_len h2
  unfold layCs
  rw [List.length_append, be_len]
  omega
/-- One change is read. -/
def rdC (s : PS) : Cg × PS := if (pI 1 (pS s).2).1 = 1 then (⟨(pS s).1, true, (pS (pI 1 (pS s).2).2).1⟩, (pS (pI 1 (pS s).2).2).2) else (⟨(pS s).1, false, []⟩, (pI 1 (pS s).2).2)
/-- So many, till something lacks. -/
def rdL : Nat → PS → List Cg × PS
  | 0, s => ([], s)
  | n + 1, s => if s.2 = true then ([], s) else ((rdC s).1 :: (rdL n (rdC s).2).1, (rdL n (rdC s).2).2)
def readCs (b : List UInt8) : Option (List Cg) :=
  if (rdL (pI 2 (b, false)).1.toNat (pI 2 (b, false)).2).2.2 = false ∧ okCs (rdL (pI 2 (b, false)).1.toNat (pI 2 (b, false)).2).1 = true ∧ layCs (rdL (pI 2 (b, false)).1.toNat (pI 2 (b, false)).2).1 = b
  then some (rdL (pI 2 (b, false)).1.toNat (pI 2 (b, false)).2).1 else none
/-- The document's: a byte above 1 is refused at once. -/
def rdLr : Nat → PS → Option (List Cg × PS)
  | 0, s => some ([], s)
  | n + 1, s => if s.2 = true then some ([], s) else if 1 < (pI 1 (pS s).2).1 then none else (rdLr n (rdC s).2).map fun r => ((rdC s).1 :: r.1, r.2)
def readCr (b : List UInt8) : Option (List Cg) :=
  (rdLr (pI 2 (b, false)).1.toNat (pI 2 (b, false)).2).bind fun r => if r.2.2 = true ∨ 0 < r.2.1.length ∨ okCs r.1 = false ∨ layCs r.1 ≠ b then none else some r.1
theorem layC_parts {c : Cg} (h : c.ok = true) (r : List UInt8) : pS (layC c ++ r, false) = (c.key, ((if c.has = true then be 1 1 ++ (be 2 c.val.length ++ c.val) else be 1 0) ++ r, false)) := by
  obtain ⟨h1, h2, h3, h4⟩ := Cg.ok_iff.1 h
  unfold layC
  rw [List.append_assoc (be 2 c.key.length ++ c.key)]
  exact pS_be (by omega)
theorem rdC_lay {c : Cg} (h : c.ok = true) (r : List UInt8) : rdC (layC c ++ r, false) = (c, (r, false)) ∧ (pI 1 (pS (layC c ++ r, false)).2).1 ≤ 1 := by
  obtain ⟨h1, h2, h3, h4⟩ := Cg.ok_iff.1 h
  unfold rdC
  rw [layC_parts h r]
  obtain ⟨k, b, v⟩ := c
  cases b with
  | true =>
    dsimp only
    rw [if_pos rfl, List.append_assoc (be 1 1), p1n (by decide)]
    dsimp only
    rw [if_pos (by decide), pS_be (by exact h3)]
    exact ⟨rfl, by decide⟩
  | false =>
    dsimp only
    rw [if_neg (show ¬ (false = true) from by decide), p1n (by decide)]
    dsimp only
    rw [if_neg (by decide)]
    rcases h4 with h4 | h4
    · cases h4
    · dsimp only at h4
      rw [h4]
      exact ⟨rfl, by decide⟩
theorem rdL_lay : ∀ (l : List Cg) (r : List UInt8), (∀ c ∈ l, c.ok = true) → rdL l.length (l.flatMap layC ++ r, false) = (l, (r, false)) ∧ rdLr l.length (l.flatMap layC ++ r, false) = some (l, (r, false))
  | [], r, _ => ⟨rfl, rfl⟩
  | c :: l, r, h => by
    obtain ⟨h1, h2⟩ := rdC_lay (h c (by simp)) (l.flatMap layC ++ r)
    obtain ⟨h3, h4⟩ := rdL_lay l r (fun d hd => h d (List.mem_cons_of_mem _ hd))
    rw [List.flatMap_cons, List.append_assoc, List.length_cons]
    unfold rdL rdLr
    rw [if_neg (by simp), if_neg (by simp), if_neg (by omega), h1]
    dsimp only
    rw [h3, h4]
    exact ⟨rfl, rfl⟩
theorem rd_lay {l : List Cg} (h : okCs l = true) : pI 2 (layCs l, false) = ((l.length : Int), (l.flatMap layC, false)) := by
  obtain ⟨h1, h2⟩ := okCs_iff.1 h
  exact p2n (by omega)
theorem readCs_lay {l : List Cg} (h : okCs l = true) : readCs (layCs l) = some l := by
  obtain ⟨h1, h2⟩ := okCs_iff.1 h
  have h3 := (rdL_lay l [] h2).1
  rw [List.append_nil] at h3
  unfold readCs
  rw [rd_lay h]
  dsimp only
  rw [Int.toNat_natCast, h3]
  exact if_pos ⟨rfl, h, rfl⟩
theorem readCr_lay {l : List Cg} (h : okCs l = true) : readCr (layCs l) = some l := by
  obtain ⟨h1, h2⟩ := okCs_iff.1 h
  have h3 := (rdL_lay l [] h2).2
  rw [List.append_nil] at h3
  unfold readCr
  rw [rd_lay h]
  dsimp only
  rw [Int.toNat_natCast, h3]
  dsimp only [Option.bind_some]
  rw [if_neg (by rw [h]; simp)]
theorem readCs_some {b : List UInt8} {l : List Cg} (h : readCs b = some l) : okCs l = true ∧ layCs l = b := by
  unfold readCs at h
  split at h
  · rename_i hc
    cases h
    exact hc.2
  · cases h
theorem readCr_some {b : List UInt8} {l : List Cg} (h : readCr b = some l) : okCs l = true ∧ layCs l = b := by
  unfold readCr at h
  rw [Option.bind_eq_some_iff] at h
  obtain ⟨r, h1, h2⟩ := h
  split at h2
  · cases h2
  · rename_i hc
    cases h2
    simp only [not_or, ne_eq, Decidable.not_not, Bool.not_eq_false, Bool.not_eq_true] at hc
    exact ⟨hc.2.2.1, hc.2.2.2⟩
/-- The document reads the same. -/
theorem readCr_eq (b : List UInt8) : readCr b = readCs b := by
  cases h : readCs b with
  | some l =>
    obtain ⟨h1, h2⟩ := readCs_some h
    rw [← h2]
    exact readCr_lay h1
  | none =>
    cases h' : readCr b with
    | none => rfl
    | some l =>
      obtain ⟨h1, h2⟩ := readCr_some h'
      rw [← h2, readCs_lay h1] at h
      cases h
end Go.Proofs.Ytipkeifpkemcdaa
namespace Go.Proofs.Ytipkeifpkemcdaa
open Go.RowKit
set_option linter.unusedVariables false
set_option linter.unusedSimpArgs false
theorem soShort_any (p : Nat) (s : PS) (F : List Nat) (w : World) (h : RdS 112 w p s F) :
    Calls Try.prog 44 #[.pointer (some ⟨p, 0, none⟩)] w fun e w' => ∃ a' n' c', e = .returned (.slice a' n' c') ∧ w'.ownsRow w.heap.size 5 1 (.slice a' n' c') n' ((pS s).1.map B8) ∧ Chg [p] w w' ∧ RdS 112 w' p (pS s).2 F := by
  obtain ⟨hl, F', hr, hF⟩ := h
  refine (oRShort_any p s.1 s.2 F' w hr hl).mono ?_
  rintro e w' ⟨a, n, c, rfl, ho, hc, F2, h1, h2⟩
  exact ⟨a, n, c, rfl, ho, hc, Nat.le_trans (rest_len _ _ _) (Nat.le_trans (rest_len _ _ _) hl), F2, h1, fun q hq => hF q (h2 q hq)⟩
theorem srShort_any (p : Nat) (s : PS) (F : List Nat) (w : World) (h : RdS 79 w p s F) :
    Calls Try.prog 48 #[.pointer (some ⟨p, 0, none⟩)] w fun e w' => ∃ a' n' c', e = .returned (.slice a' n' c') ∧ w'.ownsRow w.heap.size 5 1 (.slice a' n' c') n' ((pS s).1.map B8) ∧ Chg [p] w w' ∧ RdS 79 w' p (pS s).2 F := by
  obtain ⟨hl, F', hr, hF⟩ := h
  refine (rRShort_any p s.1 s.2 F' w hr hl).mono ?_
  rintro e w' ⟨a, n, c, rfl, ho, hc, F2, h1, h2⟩
  exact ⟨a, n, c, rfl, ho, hc, Nat.le_trans (rest_len _ _ _) (Nat.le_trans (rest_len _ _ _) hl), F2, h1, fun q hq => hF q (h2 q hq)⟩
theorem soLack_any (p : Nat) (s : PS) (F : List Nat) (w : World) (h : RdS 112 w p s F) :
    Calls Try.prog 43 #[.pointer (some ⟨p, 0, none⟩)] w fun e w' => e = .returned (.bool s.2) ∧ w = w' := by
  obtain ⟨hl, F', hr, hF⟩ := h
  exact oLack_any p s.1 s.2 F' w hr
end Go.Proofs.Ytipkeifpkemcdaa
namespace Go.Proofs.Ytipkeifpkemcdaa
open Go.RowKit
set_option linter.unusedVariables false
set_option linter.unusedSimpArgs false
set_option maxRecDepth 1000000
set_option maxHeartbeats 3200000
/-- A change in memory. -/
structure ChD where
  key : ByteArray := ⟨#[]⟩
  has : Bool := false
  va : Option Addr := none
  vn : Nat := 0
  vc : Nat := 0
  val : List UInt8 := []
instance : Inhabited ChD := ⟨{}⟩
def ChD.cells (x : ChD) : List Value := [.string x.key, .bool x.has, .slice x.va x.vn x.vc]
def ChD.cg (x : ChD) : Cg := ⟨x.key.data.toList, x.has, x.val⟩
structure ChD.ok (w : World) (x : ChD) : Prop where
  rd : RdB w x.va x.vn x.val
  no : x.va = none → x.vc = 0
  sm : x.vn ≤ 140737488355328
  ks : x.key.size ≤ 9223372036854775807
theorem ChD.ok.below {w w' : World} {x : ChD} (h : x.ok w) (hb : Below w.heap.size w w') : x.ok w' := ⟨h.rd.below hb, h.no, h.sm, h.ks⟩
/-- Changes in a row, wherever they stand. -/
structure ChA (w : World) (a : Option Addr) (n : Nat) (l : List ChD) : Prop where
  len : l.length = n
  sm : n ≤ 140737488355328
  row : ∀ k, k < n → ∃ b off x, a = some ⟨b, off, none⟩ ∧ l[k]? = some x ∧ w.rangeAt b (off + k * 3) x.cells ∧ x.ok w
theorem ChA.below {w w' : World} {a : Option Addr} {n : Nat} {l : List ChD} (h : ChA w a n l) (hb : Below w.heap.size w w') : ChA w' a n l :=
  ⟨h.len, h.sm, fun k hk => let ⟨b, off, y, h1, h2, h3, h4⟩ := h.row k hk; ⟨b, off, y, h1, h2, fun j v hv => (Chg.of_below hb []).cell (h3 j v hv) (by simp), h4.below hb⟩⟩
theorem ChA.nil (w : World) (a : Option Addr) : ChA w a 0 [] := ⟨rfl, Nat.zero_le _, fun k hk => absurd hk (Nat.not_lt_zero _)⟩
theorem key_len (k : ByteArray) : k.data.toList.length = k.size := by rw [Array.length_toList]; rfl
theorem cg_ok (w : World) (x : ChD) (hx : x.ok w) : x.cg.ok = (!x.key.toList.isEmpty && (decide ((x.key.size : Int) ≤ 100) && (decide ((x.vn : Int) ≤ 65535) && (x.has || (x.vn : Int) == 0)))) := by
  have h1 := hx.rd.len
  have h2 : x.val = [] ↔ x.vn = 0 := by rw [← h1]; exact List.length_eq_zero_iff.symm
  have h3 : ((x.key.size : Int) ≤ 100) ↔ x.key.size ≤ 100 := by omega
  have h4 : ((x.vn : Int) ≤ 65535) ↔ x.vn ≤ 65535 := by omega
  have h5 : ((x.vn : Int) = 0) ↔ x.vn = 0 := by omega
  unfold Cg.ok ChD.cg
  rw [Bool.eq_iff_iff, ByteArray.toList_eq]
  simp only [decide_eq_true_eq, Bool.and_eq_true, Bool.or_eq_true, key_len, ne_eq, h1, h2, h3, h4, h5, beq_iff_eq, Bool.not_eq_true', List.isEmpty_eq_false_iff]
theorem chSize : (Try.prog.info? 59).map (·.size) = some 3 := by kernel_rfl
theorem chZero : (Try.prog.info? 59).map (·.zero) = some (some (.agg #[.string ⟨#[]⟩, .bool false, .slice none 0 0])) := by kernel_rfl
theorem chOne (x : ChD) : x.cells.toArray.all (·.oneCell') = true := by simp [ChD.cells, Value.oneCell']
theorem right5_any (x : ChD) (w : World) (hx : x.ok w) :
    Calls Try.prog 32 #[.agg x.cells.toArray] w fun e w' => e = .returned (.bool x.cg.ok) ∧ Below w.heap.size w w' := by
  rw [cg_ok w x hx]
  clear hx
  have HB := hid (block_new w (.cells x.cells.toArray 59))
  have HW := hid ((Below.refl w.heap.size w).alloc (Nat.le_refl _) (.cells x.cells.toArray 59))
  have c0 : (w.alloc (.cells x.cells.toArray 59)).cell? ⟨w.heap.size, 0, none⟩ = some (.string x.key) := cell_of_block (j := 0) HB.out rfl
  have c1 : (w.alloc (.cells x.cells.toArray 59)).cell? ⟨w.heap.size, 1, none⟩ = some (.bool x.has) := cell_of_block (j := 1) HB.out rfl
  have c2 : (w.alloc (.cells x.cells.toArray 59)).cell? ⟨w.heap.size, 2, none⟩ = some (.slice x.va x.vn x.vc) := cell_of_block (j := 2) HB.out rfl
  go_enter Try.func32, Try.ntmps32
  go_wp2_with fail
  all_goals (go_ret; refine ⟨?_, HW.out⟩)
  all_goals (clear c0 c1 c2 HB HW)
  all_goals (simp only [← Int.not_lt] at *)
  all_goals (simp [*])
theorem bad5_any (x : ChD) (w : World) (hx : x.ok w) :
    Calls Try.prog 31 #[.agg x.cells.toArray] w fun e w' => e = .returned (.bool (!x.cg.ok)) ∧ Below w.heap.size w w' := by
  have HX := hid hx
  clear hx
  have HB := hid (block_new w (.cells x.cells.toArray 59))
  have HW := hid ((Below.refl w.heap.size w).alloc (Nat.le_refl _) (.cells x.cells.toArray 59))
  go_enter Try.func31, Try.ntmps31
  go_wp2_with (refine wpList_load_row rfl 59 _ rfl w.heap.size rfl _ _ _ _ HB.out Try.underlying59 rfl chSize ?_)
  refine (right5_any x _ (HX.out.below HW.out)).mono ?_
  rintro e w2 ⟨rfl, hb2⟩
  dsimp only
  have HB2 := hid (HW.out.trans (hb2.mono HW.out.size))
  clear hb2
  go_wp2_with fail
  go_ret
  exact ⟨rfl, HB2.out⟩
/-- While a bad one is looked for. -/
def IxL (w0 : World) (n : Nat) (l : List ChD) (y8 : Value) (wr : World) : Prop := ∃ k : Nat, y8 = .int .i64 (k : Int) ∧ k ≤ n ∧ (∀ x ∈ l.take k, x.cg.ok = true) ∧ Below w0.heap.size w0 wr
theorem index5_any (a : Option Addr) (n c : Nat) (l : List ChD) (w : World) (h : ChA w a n l) :
    Calls Try.prog 61 #[.slice a n c, .func (.func 31) #[] #[]] w
      fun e w' => ∃ z : Int, e = .returned (.int .i64 z) ∧ decide (0 ≤ z) = !(l.all fun x => x.cg.ok) ∧ Below w.heap.size w w' := by
  have H := hid h
  have hsm := h.sm
  have HL := hid h.len
  clear h
  go_enter Try.func61, Try.ntmps61
  go_wp2_with fail
  go_loopw [8] (fun y8 wr => IxL w n l y8 wr) (fun y8 _ => n - (intOf y8).toNat)
  case atStart => exact ⟨0, rfl, Nat.zero_le _, (fun x hx => by cases hx), Below.refl _ _⟩
  case round =>
    obtain ⟨k, rfl, hk, hall, hb⟩ := hrel
    have HALL := hid hall; have HB := hid hb
    clear hall hb
    by_cases k1 : k < n
    · have k1z : (k : Int) < (n : Int) := by omega
      obtain ⟨bL, oL, x, haL, hlx, hrow, hxo⟩ := (H.out.below HB.out).row k k1
      have HXO := hid hxo; have HLX := hid hlx; have HR := hid hrow
      subst haL
      clear hxo hlx hrow
      go_wp2_with (refine wpList_load_mid rfl 59 _ rfl bL (oL + k * 3) rfl x.cells _ HR.out Try.underlying59 rfl chSize ?_)
      refine (bad5_any x _ HXO.out).mono ?_
      rintro e w2 ⟨rfl, hb2⟩
      dsimp only
      have HB2 := hid (HB.out.trans (hb2.mono HB.out.size))
      clear hb2
      have hok : ∃ b, x.cg.ok = b := ⟨_, rfl⟩
      obtain ⟨b, hob⟩ := hok
      have HOB := hid hob
      rw [hob]
      clear hob
      cases b with
      | true =>
        go_wp2_with fail
        have HRR : IxL w n l (.int .i64 ((k : Int) + 1)) w2 := ⟨k + 1, rfl, k1, fun y hy => by
          rw [List.take_add_one, HLX.out] at hy
          rcases List.mem_append.1 hy with h | h
          · exact HALL.out y h
          · simp at h; rw [h]; exact HOB.out, HB2.out⟩
        go_roundw
        case rel => first | exact HRR | ((repeat apply Exists.intro); exact HRR) | ((repeat apply Exists.intro); exact ⟨HRR, rfl⟩)
        case measure => (simp [intOf] <;> omega)
      | false =>
        go_wp2_with fail
        go_ret
        refine ⟨_, rfl, ?_, HB2.out⟩
        have h1 : (l.all fun x => x.cg.ok) = false := by
          rw [List.all_eq_false]
          exact ⟨x, List.mem_of_getElem? HLX.out, by rw [HOB.out]; decide⟩
        rw [h1]
        simp
    · have k1z : ¬ (k : Int) < (n : Int) := by omega
      go_wp2_with fail
      go_ret
      refine ⟨_, rfl, ?_, HB.out⟩
      have h1 : (l.all fun x => x.cg.ok) = true := by
        rw [List.all_eq_true]
        intro y hy
        have h2 := HALL.out y
        rw [List.take_of_length_le (by rw [HL.out]; omega)] at h2
        exact h2 hy
      rw [h1]
      decide
theorem cont5_any (a : Option Addr) (n c : Nat) (l : List ChD) (w : World) (h : ChA w a n l) :
    Calls Try.prog 30 #[.slice a n c, .func (.func 31) #[] #[]] w
      fun e w' => e = .returned (.bool (!(l.all fun x => x.cg.ok))) ∧ Below w.heap.size w w' := by
  have H := hid h
  clear h
  go_enter Try.func30, Try.ntmps30
  go_wp2_with fail
  refine (index5_any a n c l _ H.out).mono ?_
  rintro e w2 ⟨z, rfl, hz, hb2⟩
  dsimp only
  have HZ := hid hz; have HB := hid hb2
  clear hz hb2
  go_wp2_with fail
  go_ret
  exact ⟨by rw [← HZ.out]; rfl, HB.out⟩
end Go.Proofs.Ytipkeifpkemcdaa
namespace Go.Proofs.Ytipkeifpkemcdaa
open Go.RowKit
set_option linter.unusedVariables false
set_option linter.unusedSimpArgs false
set_option maxRecDepth 1000000
set_option maxHeartbeats 6400000
theorem bytesW_below (w : World) (e : TypeId) (s : ByteArray) : Below w.heap.size w (Lib.bytesWorld w e s) :=
  ⟨rfl, rfl, rfl, by rw [Lib.bytesWorld_size]; omega, fun k hk => Lib.bytesWorld_at_old w e s k hk⟩
theorem bytesW_rdB (w : World) (e : TypeId) (s : ByteArray) : RdB (Lib.bytesWorld w e s) (some ⟨w.heap.size, 0, none⟩) s.size s.data.toList := by
  refine ⟨by simp, fun j hj => ⟨w.heap.size, 0, rfl, fun i hi => ?_⟩⟩
  have hi' : i < s.size := by simpa using hi
  rw [Nat.zero_add, Lib.bytesWorld_cell w e s i hi']
  rfl
theorem own_low {w : World} {b b' : Nat} {e : TypeId} {size : Nat} {v : Value} {n : Nat} {xs : List Value} (h : w.ownsRow b e size v n xs) (hb : b' ≤ b) : w.ownsRow b' e size v n xs :=
  ⟨h.1, h.2.imp id (fun ⟨g, cap, cur, h1, h2, h3⟩ => ⟨g, cap, cur, h1, Nat.le_trans hb h2, h3⟩)⟩
/-- What LayChanges answers. -/
def LayRes (w : World) (l : List Cg) (e : Ending) (w' : World) : Prop := Below w.heap.size w w' ∧
  ((okCs l = true ∧ ∃ a n c, e = .returned (.tuple #[.slice a n c, .int .i64 0]) ∧ w'.ownsRow w.heap.size 5 1 (.slice a n c) n ((layCs l).map B8)) ∨ (okCs l = false ∧ e = .returned (.tuple #[.slice none 0 0, .int .i64 1])))
/-- While the changes are laid. -/
structure LyL (w0 : World) (p n : Nat) (T : TypeId) (l : List ChD) (y21 : Value) (wr : World) : Prop where
  ex : ∃ (k : Nat) (F : List Nat), y21 = .int .i64 (k : Int) ∧ k ≤ n ∧ Wr T wr p (be 2 n ++ ((l.take k).map ChD.cg).flatMap layC) F ∧ (∀ q ∈ F, w0.heap.size ≤ q) ∧ Below w0.heap.size w0 wr
theorem flat_snoc (l : List ChD) (k : Nat) (x : ChD) (h : l[k]? = some x) : ((l.take (k + 1)).map ChD.cg).flatMap layC = ((l.take k).map ChD.cg).flatMap layC ++ layC x.cg := by
  rw [List.take_add_one, h]
  simp
theorem lay_on (l : List ChD) (k n : Nat) (x : ChD) (h : l[k]? = some x) (hl : x.val.length = x.vn) (hh : x.has = true) : be 2 n ++ ((l.take (k + 1)).map ChD.cg).flatMap layC = be 2 n ++ ((l.take k).map ChD.cg).flatMap layC ++ be 2 x.key.size ++ x.key.data.toList ++ be 1 1 ++ be 2 x.vn ++ x.val := by
  rw [flat_snoc l k x h]
  unfold layC ChD.cg
  rw [if_pos hh, key_len, hl]
  simp only [List.append_assoc]
theorem lay_off (l : List ChD) (k n : Nat) (x : ChD) (h : l[k]? = some x) (hh : x.has = false) : be 2 n ++ ((l.take (k + 1)).map ChD.cg).flatMap layC = be 2 n ++ ((l.take k).map ChD.cg).flatMap layC ++ be 2 x.key.size ++ x.key.data.toList ++ be 1 0 := by
  rw [flat_snoc l k x h]
  unfold layC ChD.cg
  rw [if_neg (by dsimp only; rw [hh]; decide), key_len]
  simp only [List.append_assoc]
theorem take_len (l : List ChD) (hok : (l.all fun x => x.cg.ok) = true) (k : Nat) (hk : k ≤ 1000) : (((l.take k).map ChD.cg).flatMap layC).length ≤ 65700000 := by
  have h1 : ∀ c ∈ (l.take k).map ChD.cg, c.ok = true := fun c hc => by
    obtain ⟨x, hx, rfl⟩ := List.mem_map.1 hc
    exact (List.all_eq_true.1 hok) x (List.mem_of_mem_take hx)
  have h2 := flat_len h1
  rw [List.length_map, List.length_take] at h2
  omega
theorem ok_of_all {l : List ChD} {n : Nat} (hl : l.length = n) (hn : n ≤ 1000) : okCs (l.map ChD.cg) = l.all fun x => x.cg.ok := by
  unfold okCs
  rw [List.length_map, hl, decide_eq_true hn, Bool.true_and, List.all_map]
  rfl
theorem ok_of_big {l : List ChD} {n : Nat} (hl : l.length = n) (hn : 1000 < n) : okCs (l.map ChD.cg) = false := by
  unfold okCs
  rw [List.length_map, hl, decide_eq_false (by omega), Bool.false_and]
theorem lay5_any (a : Option Addr) (n c : Nat) (l : List ChD) (w : World) (h : ChA w a n l) :
    Calls Try.prog 10 #[.slice a n c] w (LayRes w (l.map ChD.cg)) := by
  have H := hid h
  have hsm := h.sm
  have HL := hid h.len
  clear h
  go_enter Try.func10, Try.ntmps10
  by_cases k1 : n ≤ 1000
  · have k1z : ¬ (1000 : Int) < (n : Int) := by omega
    have HOK := hid (ok_of_all HL.out k1)
    go_wp2_with fail
    refine (cont5_any a n c l _ H.out).mono ?_
    rintro e w1 ⟨rfl, hb1⟩
    dsimp only
    have HB1 := hid hb1
    clear hb1
    obtain ⟨b, hall⟩ : ∃ b, (l.all fun x => x.cg.ok) = b := ⟨_, rfl⟩
    have HALL := hid hall
    rw [hall]
    clear hall
    cases b with
    | false =>
      go_wp2_with fail
      go_ret2
      exact ⟨HB1.out, .inr ⟨HOK.out.trans HALL.out, rfl⟩⟩
    | true =>
      go_wp2_with fail
      refine (oNew_any _).mono ?_
      rintro e w2 ⟨rfl, hw2, hb2, -⟩
      dsimp only
      have HW2 := hid hw2; have HB2 := hid (HB1.out.trans (hb2.mono HB1.out.size))
      have HP := hid HB1.out.size
      generalize w1.heap.size = p at *
      clear hw2 hb2 HB1
      go_wp2_with fail
      refine (oU16_any p [] [p] (n : Int) _ HW2.out (by simp)).mono ?_
      rintro e w3 ⟨F, rfl, hw3, hc3, hf3⟩
      dsimp only
      rw [u64nat_nat n (by omega), List.nil_append] at hw3
      have HW3 := hid hw3
      have HB3 := hid (HB2.out.trans (hc3.below (fun q hq => by rw [List.mem_singleton.1 hq]; exact HP.out) HB2.out.size))
      have HF3 := hid (show ∀ q ∈ F, w.heap.size ≤ q from fun q hq => by
        rcases hf3 q hq with h | h
        · rw [List.mem_singleton.1 h]; exact HP.out
        · exact Nat.le_trans HB2.out.size h)
      clear hw3 hc3 hf3 HW2 HB2
      go_wp2_with fail
      go_loopw [21] (fun y21 wr => LyL w p n 108 l y21 wr) (fun y21 _ => n - (intOf y21).toNat)
      case atStart => exact ⟨⟨0, F, rfl, Nat.zero_le _, by simpa using HW3.out, HF3.out, HB3.out⟩⟩
      case round =>
        clear HW3 HB3 HF3
        obtain ⟨k, F, rfl, hk, hwr, hlow, hb⟩ := hrel.ex
        clear hrel
        have HWR := hid hwr; have HLOW := hid hlow; have HB := hid hb
        clear hwr hlow hb
        by_cases k2 : k < n
        · have k2z : (k : Int) < (n : Int) := by omega
          obtain ⟨bL, oL, x, haL, hlx, hrow, hxo⟩ := H.out.row k k2
          have HXO := hid hxo; have HLX := hid hlx
          have HR := hid (show wr.rangeAt bL (oL + k * 3) x.cells from fun j v hv => (HB.out.cell (World.block_lt_of_cell? w _ (hrow j v hv))).trans (hrow j v hv))
          subst haL
          clear hxo hlx hrow
          have hxk : x.cg.ok = true := (List.all_eq_true.1 HALL.out) x (List.mem_of_getElem? HLX.out)
          have hxk' := Cg.ok_iff.1 hxk
          have HTL := hid (take_len l HALL.out k (by omega))
          go_upto_region 8 with (first | (refine wpList_load_mid rfl 59 _ rfl bL (oL + k * 3) rfl x.cells _ HR.out Try.underlying59 rfl chSize ?_) | (refine wpList_alloc_obj rfl 59 rfl _ chZero ?_) | (refine wpList_store_obj rfl 59 _ _ rfl wr.heap.size rfl x.cells.toArray rfl _ _ (block_new wr _) rfl chSize (chOne x) ?_; intro w5 hb5 hc5 hs5; have HX := hid hb5; have HC5 := hid hc5; clear hb5 hc5 hs5))
          have hbel : Below wr.heap.size wr w5 := ((Below.refl _ wr).alloc (Nat.le_refl _) _).trans (HC5.out.below (fun k hk => by rw [List.mem_singleton.1 hk]; exact Nat.le_refl _) (by simp))
          have HB5 := hid (HB.out.trans (hbel.mono HB.out.size))
          have HWR5 := hid (HWR.out.keep (Chg.of_below hbel []) (fun _ _ hm => by cases hm))
          have HBS := hid (show ∀ q ∈ F, q < wr.heap.size from HWR.out.lt)
          have HZ5 := hid hbel.size
          clear hbel HC5 HR HWR
          generalize wr.heap.size = bs at *
          have c0 : w5.cell? ⟨bs, 0, none⟩ = some (.string x.key) := cell_of_block (j := 0) HX.out rfl
          have kc := Lib.run_convert_string_bytes (P := Try.prog) w5 9 24 5 x.key Try.underlying9 Try.underlying24 Try.underlying5
          have hb6 := bytesW_below w5 5 x.key
          have hr6 := bytesW_rdB w5 5 x.key
          have hx6 : (Lib.bytesWorld w5 5 x.key).heap[bs]? = some (.cells x.cells.toArray 59 (0, 0)) := (hb6.block _ (block_lt HX.out)).trans HX.out
          have HB6 := hid (HB5.out.trans (hb6.mono HB5.out.size))
          have HWR6 := hid (HWR5.out.keep (Chg.of_below hb6 []) (fun _ _ hm => by cases hm))
          have HR6 := hid hr6; have HX6 := hid hx6
          have HLT5 := hid HWR5.out.lt
          have hlk : x.key.size = x.cg.key.length := (key_len x.key).symm
          have hkz : x.key.size ≤ 65535 := by have := hxk'.2.1; omega
          clear hb6 hr6 hx6 hlk HB5 HWR5
          generalize grownCap w5 x.key.size 0 5 = gc at *
          generalize Lib.bytesWorld w5 5 x.key = w6 at *
          generalize w5.heap.size = z5 at *
          go_wp2_with fail
          refine (oShort_any p _ F (some ⟨z5, 0, none⟩) x.key.size gc x.key.data.toList _ HWR6.out HR6.out (by simp) (fun w1 h1 => h1.rdB HR6.out (fun b off sp hb hm => by simp at hb; have := HLT5.out _ hm; omega)) hkz (by rw [List.length_append, be_len]; have := HTL.out; omega)).mono ?_
          rintro e w7 ⟨F1, rfl, hw7, hc7, hf7⟩
          dsimp only
          have HW7 := hid hw7
          have HX7 := hid ((hc7.block _ (block_lt HX6.out) (fun hm => by have := HBS.out _ hm; omega)).trans HX6.out)
          have HB7 := hid (HB6.out.trans (hc7.below HLOW.out HB6.out.size))
          have HF1 := hid (show ∀ q ∈ F1, w.heap.size ≤ q ∧ q ≠ bs from fun q hq => by
            rcases hf7 q hq with h | h
            · exact ⟨HLOW.out q h, fun e => by have := HBS.out q h; omega⟩
            · have h1 := HB6.out.size; have h2 := block_lt HX6.out; exact ⟨by omega, by omega⟩)
          have HSZ := hid HXO.out.rd.len
          clear hw7 hc7 hf7 HX6 HB6 HWR6 HR6 HX HLT5 HBS HZ5 c0 kc hkz
          have c1 : w7.cell? ⟨bs, 1, none⟩ = some (.bool x.has) := cell_of_block (j := 1) HX7.out rfl
          obtain ⟨hv, hhv⟩ : ∃ b, x.has = b := ⟨_, rfl⟩
          have HHV := hid hhv
          rw [hhv] at c1
          clear hhv
          cases hv with
          | true =>
            go_wp2_with fail
            refine (oU8_any p _ F1 1 _ HW7.out (by simp only [List.length_append, be_len, key_len]; have h1 := HTL.out; have h2 := hxk'.2.1; have h3 := key_len x.key; unfold ChD.cg at h2; dsimp only at h2; omega)).mono ?_
            rintro e w8 ⟨F2, rfl, hw8, hc8, hf8⟩
            dsimp only
            rw [show u64nat 1 = 1 from rfl] at hw8
            have HW8 := hid hw8
            have HX8 := hid ((hc8.block _ (block_lt HX7.out) (fun hm => (HF1.out _ hm).2 rfl)).trans HX7.out)
            have HB8 := hid (HB7.out.trans (hc8.below (fun q hq => (HF1.out q hq).1) HB7.out.size))
            have HF2 := hid (show ∀ q ∈ F2, w.heap.size ≤ q from fun q hq => by
              rcases hf8 q hq with h | h
              · exact (HF1.out q h).1
              · have h1 := HB7.out.size; omega)
            clear hw8 hc8 hf8 HW7 HX7 HB7 HF1 c1
            have c2 : w8.cell? ⟨bs, 2, none⟩ = some (.slice x.va x.vn x.vc) := cell_of_block (j := 2) HX8.out rfl
            go_wp2_with fail
            refine (oShort_any p _ F2 x.va x.vn x.vc x.val _ HW8.out (HXO.out.rd.below HB8.out) HXO.out.no (fun w1 h1 => HXO.out.rd.below (HB8.out.trans (h1.below HF2.out HB8.out.size))) (by have h2 := hxk'.2.2.1; have h3 := HSZ.out; unfold ChD.cg at h2; dsimp only at h2; omega) (by simp only [List.length_append, be_len, key_len]; have h1 := HTL.out; have h2 := hxk'.2.1; have h3 := key_len x.key; unfold ChD.cg at h2; dsimp only at h2; omega)).mono ?_
            rintro e w9 ⟨F3, rfl, hw9, hc9, hf9⟩
            dsimp only
            rw [← lay_on l k n x HLX.out HSZ.out HHV.out] at hw9
            have HRR : LyL w p n 108 l (.int .i64 ((k : Int) + 1)) w9 := ⟨⟨k + 1, F3, rfl, k2, hw9, fun q hq => by
              rcases hf9 q hq with h | h
              · exact HF2.out q h
              · have h1 := HB8.out.size; omega, HB8.out.trans (hc9.below HF2.out HB8.out.size)⟩⟩
            clear hw9 hc9 hf9 c2
            go_wp2_with fail
            go_roundw
            case rel => first | exact HRR | ((repeat apply Exists.intro); exact HRR) | ((repeat apply Exists.intro); exact ⟨HRR, rfl⟩)
            case measure => (simp [intOf] <;> omega)
          | false =>
            go_wp2_with fail
            refine (oU8_any p _ F1 0 _ HW7.out (by simp only [List.length_append, be_len, key_len]; have h1 := HTL.out; have h2 := hxk'.2.1; have h3 := key_len x.key; unfold ChD.cg at h2; dsimp only at h2; omega)).mono ?_
            rintro e w9 ⟨F3, rfl, hw9, hc9, hf9⟩
            dsimp only
            rw [show u64nat 0 = 0 from rfl, ← lay_off l k n x HLX.out HHV.out] at hw9
            have HRR : LyL w p n 108 l (.int .i64 ((k : Int) + 1)) w9 := ⟨⟨k + 1, F3, rfl, k2, hw9, fun q hq => by
              rcases hf9 q hq with h | h
              · exact (HF1.out q h).1
              · have h1 := HB7.out.size; omega, HB7.out.trans (hc9.below (fun q hq => (HF1.out q hq).1) HB7.out.size)⟩⟩
            clear hw9 hc9 hf9 c1
            go_wp2_with fail
            go_roundw
            case rel => first | exact HRR | ((repeat apply Exists.intro); exact HRR) | ((repeat apply Exists.intro); exact ⟨HRR, rfl⟩)
            case measure => (simp [intOf] <;> omega)
        · have k2z : ¬ (k : Int) < (n : Int) := by omega
          obtain rfl : k = n := by omega
          have HTL := hid (take_len l HALL.out k k1)
          have htk : l.take k = l := List.take_of_length_le (by rw [HL.out]; exact Nat.le_refl _)
          go_wp2_with fail
          refine (oBytes_any p _ F _ HWR.out (by rw [List.length_append, be_len]; have := HTL.out; omega)).mono ?_
          rintro e w9 ⟨a', n', c', rfl, ho9, hb9⟩
          dsimp only
          rw [htk] at ho9
          have HO9 := hid ho9; have HB9 := hid hb9
          clear ho9 hb9
          go_wp2_with fail
          go_ret2
          refine ⟨HB.out.trans (HB9.out.mono HB.out.size), .inl ⟨HOK.out.trans HALL.out, a', n', c', rfl, ?_⟩⟩
          unfold layCs
          rw [List.length_map, HL.out]
          exact own_low HO9.out HB.out.size
  · have k1z : (1000 : Int) < (n : Int) := by omega
    have HOK := hid (ok_of_big HL.out (by omega))
    go_wp2_with fail
    go_ret2
    exact ⟨Below.refl _ _, .inr ⟨HOK.out, rfl⟩⟩
end Go.Proofs.Ytipkeifpkemcdaa
namespace Go.Proofs.Ytipkeifpkemcdaa
open Go.RowKit
set_option linter.unusedVariables false
set_option linter.unusedSimpArgs false
set_option maxRecDepth 1000000
set_option maxHeartbeats 3200000
/-- Changes in a row, all of it in blocks of P. -/
structure ChQ (w : World) (P : Nat → Prop) (s : Sl) (l : List ChD) : Prop where
  ch : ChA w s.a s.n l
  no : s.a = none → s.c = 0
  at_ : ∀ b off sp, s.a = some ⟨b, off, sp⟩ → P b
  vat : ∀ x ∈ l, ∀ b off sp, x.va = some ⟨b, off, sp⟩ → P b
section
variable {w w' : World} {P P' : Nat → Prop} {s : Sl} {l : List ChD} {G : List Nat}
theorem ChQ.nil (w : World) (P : Nat → Prop) : ChQ w P {} [] := ⟨ChA.nil _ _, fun _ => rfl, (fun b off sp h => by cases h), (fun x hx => by cases hx)⟩
theorem ChQ.keep (h : ChQ w P s l) (hc : Chg G w w') (hG : ∀ q ∈ G, ¬ P q) : ChQ w' P s l :=
  ⟨⟨h.ch.len, h.ch.sm, fun k hk => let ⟨b, off, y, h1, h2, h3, h4⟩ := h.ch.row k hk; ⟨b, off, y, h1, h2, fun j v hv => hc.cell (h3 j v hv) (fun hm => hG _ hm (h.at_ b off none h1)),
    ⟨hc.rdB h4.rd (fun b off sp hb hm => hG _ hm (h.vat y (List.mem_of_getElem? h2) b off sp hb)), h4.no, h4.sm, h4.ks⟩⟩⟩, h.no, h.at_, h.vat⟩
theorem ChQ.below (h : ChQ w P s l) (hb : Below w.heap.size w w') : ChQ w' P s l := h.keep (Chg.of_below hb []) (fun q hm => by cases hm)
theorem ChQ.wide (h : ChQ w P s l) (hP : ∀ q, P q → P' q) : ChQ w P' s l := ⟨h.ch, h.no, fun b off sp e => hP _ (h.at_ b off sp e), fun x hx b off sp e => hP _ (h.vat x hx b off sp e)⟩
end
/-- A row of changes of the call's own. -/
structure OwnC (w : World) (base : Nat) (s : Sl) (l : List ChD) : Prop where
  own : w.ownsRow base 59 3 (.slice s.a s.n s.c) s.n (l.flatMap ChD.cells)
  ln : l.length = s.n
  rd : ∀ x ∈ l, x.ok w ∧ ∀ b off sp, x.va = some ⟨b, off, sp⟩ → base ≤ b ∧ b < w.heap.size ∧ s.v.ownBlock ≠ some b
theorem cells_at : ∀ (l : List ChD) (k : Nat) (x : ChD), l[k]? = some x → ∀ (j : Nat) (v : Value), x.cells[j]? = some v → (l.flatMap ChD.cells)[k * 3 + j]? = some v
  | [], k, x, h, j, v, hv => by simp at h
  | y :: l, 0, x, h, j, v, hv => by
    simp only [List.getElem?_cons_zero, Option.some.injEq] at h
    subst h
    rw [List.flatMap_cons, Nat.zero_mul, Nat.zero_add, List.getElem?_append_left (by have := (List.getElem?_eq_some_iff.1 hv).1; exact this)]
    exact hv
  | y :: l, k + 1, x, h, j, v, hv => by
    rw [List.flatMap_cons, List.getElem?_append_right (by show 3 ≤ _; omega)]
    rw [show (k + 1) * 3 + j - y.cells.length = k * 3 + j by show (k + 1) * 3 + j - 3 = _; omega]
    exact cells_at l k x (by simpa using h) j v hv
theorem cells_one (l : List ChD) : ∀ u ∈ l.flatMap ChD.cells, u.oneCell' = true := fun u hu => by
  obtain ⟨x, -, h⟩ := List.mem_flatMap.1 hu
  simp only [ChD.cells, List.mem_cons, List.not_mem_nil, or_false] at h
  rcases h with rfl | rfl | rfl <;> rfl
section
variable {w w' W : World} {base : Nat} {s : Sl} {l : List ChD}
theorem OwnC.nil (w : World) (base : Nat) : OwnC w base {} [] := ⟨World.ownsRow_nil w base 59 3, rfl, fun x hx => by cases hx⟩
theorem OwnC.keep {G : List Nat} (h : OwnC w base s l) (hc : Chg G w w') (hG : ∀ q ∈ G, q < base) : OwnC w' base s l :=
  ⟨hc.owns h.own (fun q hq hm => by have h1 := (h.own.lt q hq).1; have := hG q hm; omega), h.ln, fun x hx => let ⟨a, d⟩ := h.rd x hx; ⟨⟨hc.rdB a.rd (fun b off sp e hm => by have := (d b off sp e).1; have := hG b hm; omega), a.no, a.sm, a.ks⟩, fun q off sp e => ⟨(d q off sp e).1, Nat.lt_of_lt_of_le (d q off sp e).2.1 hc.size, (d q off sp e).2.2⟩⟩⟩
theorem OwnC.below (h : OwnC w base s l) (hb : Below w.heap.size w w') : OwnC w' base s l := h.keep (Chg.of_below hb []) (fun q hm => by cases hm)
theorem OwnC.app (h : OwnC w base s l) (hW : Below w.heap.size w W) {x : ChD} (hx : x.ok w) (hb : ∀ b off sp, x.va = some ⟨b, off, sp⟩ → base ≤ b ∧ b < w.heap.size ∧ s.v.ownBlock ≠ some b) {a : Option Addr} {c : Nat}
    (ho : w'.ownsRow base 59 3 (.slice a (s.n + 1) c) (s.n + 1) (l.flatMap ChD.cells ++ x.cells)) (hg : W.grownBy w' s.v.ownBlock) (hf : (Value.slice a (s.n + 1) c).ownBlock = s.v.ownBlock ∨ ∀ k, (Value.slice a (s.n + 1) c).ownBlock = some k → W.heap.size ≤ k) : OwnC w' base ⟨a, s.n + 1, c⟩ (l ++ [x]) := by
  have hc : Chg s.v.ownBlock.toList w w' := (Chg.of_below hW _).grown hg (fun k hk => .inl (by rw [hk]; simp))
  refine ⟨by rw [List.flatMap_append, List.flatMap_cons, List.flatMap_nil, List.append_nil]; exact ho, by rw [List.length_append, h.ln]; rfl, fun y hy => ?_⟩
  have key : y.ok w ∧ ∀ b off sp, y.va = some ⟨b, off, sp⟩ → base ≤ b ∧ b < w.heap.size ∧ s.v.ownBlock ≠ some b := by
    rcases List.mem_append.1 hy with h' | h'
    · exact h.rd y h'
    · rw [List.mem_singleton.1 h']; exact ⟨hx, hb⟩
  obtain ⟨k1, k4⟩ := key
  refine ⟨⟨hc.rdB k1.rd (fun b off sp e hm => (k4 b off sp e).2.2 (by simpa using hm)), k1.no, k1.sm, k1.ks⟩, fun b off sp e => ⟨(k4 b off sp e).1, Nat.lt_of_lt_of_le (k4 b off sp e).2.1 hc.size, fun he => ?_⟩⟩
  rcases hf with h' | h'
  · exact (k4 b off sp e).2.2 (by rw [← h']; exact he)
  · have h3 := h' b he
    have h4 := hW.size
    have h5 := (k4 b off sp e).2.1
    omega
theorem OwnC.q (h : OwnC w base s l) (hn : s.n ≤ 140737488355328) : ChQ w (fun q => base ≤ q ∧ q < w.heap.size) s l := by
  have h3 := RdC.of_own h.own
  refine ⟨⟨h.ln, hn, fun k hk => ?_⟩, (own_slice h.own).2.1, own_at h.own, fun x hx b off sp e => ⟨((h.rd x hx).2 b off sp e).1, ((h.rd x hx).2 b off sp e).2.1⟩⟩
  have hlt : k < l.length := by rw [h.ln]; exact hk
  obtain ⟨b, off, ha, hc⟩ := h3.cell (k * 3) (by omega)
  exact ⟨b, off, l[k], ha, List.getElem?_eq_getElem hlt, fun j v hv => by
    have := hc (k * 3 + j) v (cells_at l k _ (List.getElem?_eq_getElem hlt) j v hv)
    rwa [← Nat.add_assoc] at this, (h.rd _ (List.getElem_mem hlt)).1⟩
end
theorem chInfo : (Try.prog.info? 59).map (fun i => (i.zero, i.size, i.bytes)) = some (some (.agg #[.string ⟨#[]⟩, .bool false, .slice none 0 0]), 3, 48) := by kernel_rfl
end Go.Proofs.Ytipkeifpkemcdaa
namespace Go.Proofs.Ytipkeifpkemcdaa
open Go.RowKit
set_option linter.unusedVariables false
set_option linter.unusedSimpArgs false
set_option maxRecDepth 1000000
set_option maxHeartbeats 6400000
def Halt (p : Prop) : Prop := p
theorem haltI {p : Prop} (h : Halt p) : p := h
theorem haltO {p : Prop} (h : p) : Halt p := h
/-- What ReadChanges answers. -/
def ReadRes (w : World) (b : List UInt8) (e : Ending) (w' : World) : Prop := Below w.heap.size w w' ∧
  ((∃ (a : Option Addr) (n c : Nat) (l : List ChD), e = .returned (.tuple #[.slice a n c, .int .i64 0]) ∧ readCs b = some (l.map ChD.cg) ∧ ChQ w' (fun q => w.heap.size ≤ q ∧ q < w'.heap.size) ⟨a, n, c⟩ l) ∨ (readCs b = none ∧ e = .returned (.tuple #[.slice none 0 0, .int .i64 5])))
theorem num_small : ∀ (l : List UInt8), l.length ≤ 2 → num l ≤ 65535
  | [], _ => by decide
  | [a], _ => by unfold num; have := a.toNat_lt; simp; omega
  | [a, b], _ => by unfold num; have := a.toNat_lt; have := b.toNat_lt; simp; omega
  | a :: b :: c :: l, h => by simp at h
theorem taken_len (l : List UInt8) (lack : Bool) (k : Nat) : (taken l lack (k : Int)).length ≤ k ∧ (taken l lack (k : Int)).length ≤ l.length := by
  unfold taken
  split
  · simp
  · rw [List.length_take]; simp; omega
theorem pI2_small (s : PS) : 0 ≤ (pI 2 s).1 ∧ (pI 2 s).1 ≤ 65535 := by
  have h1 := num_small (taken s.1 s.2 2) (taken_len s.1 s.2 2).1
  unfold pI
  dsimp only
  rw [asInt_small _ (by omega)]
  omega
theorem pS_len (s : PS) : (pS s).1.length ≤ s.1.length := by
  unfold pS shortOf
  dsimp only
  have h1 := pI2_small s
  unfold pI at h1
  dsimp only at h1
  obtain ⟨k, hk⟩ := Int.eq_ofNat_of_zero_le h1.1
  rw [hk]
  exact Nat.le_trans (taken_len _ _ k).2 (rest_len _ _ _)
theorem rdL_stop {n : Nat} {s : PS} (h : s.2 = true) : rdL n s = ([], s) := by
  cases n with
  | zero => rfl
  | succ n => unfold rdL; rw [if_pos h]
theorem rdL_go {n : Nat} {s : PS} (h : s.2 = false) : rdL (n + 1) s = ((rdC s).1 :: (rdL n (rdC s).2).1, (rdL n (rdC s).2).2) := by
  conv => lhs; unfold rdL
  rw [if_neg (by rw [h]; decide)]
theorem rdC_on {s : PS} (h : (pI 1 (pS s).2).1 = 1) : rdC s = (⟨(pS s).1, true, (pS (pI 1 (pS s).2).2).1⟩, (pS (pI 1 (pS s).2).2).2) := by unfold rdC; rw [if_pos h]
theorem rdC_off {s : PS} (h : ¬ (pI 1 (pS s).2).1 = 1) : rdC s = (⟨(pS s).1, false, []⟩, (pI 1 (pS s).2).2) := by unfold rdC; rw [if_neg h]
theorem readCs_eq {b : List UInt8} {N : Nat} {s1 s : PS} {l : List Cg} (h1 : (pI 2 (b, false)).1 = (N : Int)) (h2 : (pI 2 (b, false)).2 = s1) (h3 : rdL N s1 = (l, s)) : readCs b = if s.2 = false ∧ okCs l = true ∧ layCs l = b then some l else none := by
  unfold readCs
  rw [h1, h2, Int.toNat_natCast, h3]
/-- All of a row lies below bs. -/
def OwnLt (bs : Nat) (s : Sl) (l : List ChD) : Prop := (∀ q, (Value.slice s.a s.n s.c).ownBlock = some q → q < bs) ∧ ∀ x ∈ l, ∀ b off sp, x.va = some ⟨b, off, sp⟩ → b < bs
theorem OwnC.low {w : World} {base : Nat} {s : Sl} {l : List ChD} (h : OwnC w base s l) : OwnLt w.heap.size s l := ⟨fun q hq => (h.own.lt q hq).2, fun x hx b off sp e => ((h.rd x hx).2 b off sp e).2.1⟩
theorem OwnC.keepLt {w w' : World} {base bs : Nat} {s : Sl} {l : List ChD} {G : List Nat} (h : OwnC w base s l) (hl : OwnLt bs s l) (hc : Chg G w w') (hG : ∀ q ∈ G, bs ≤ q) : OwnC w' base s l :=
  ⟨hc.owns h.own (fun q hq hm => by have h1 := hl.1 q hq; have := hG q hm; omega), h.ln, fun x hx => let ⟨a, d⟩ := h.rd x hx; ⟨⟨hc.rdB a.rd (fun b off sp e hm => by have := hl.2 x hx b off sp e; have := hG b hm; omega), a.no, a.sm, a.ks⟩, fun q off sp e => ⟨(d q off sp e).1, Nat.lt_of_lt_of_le (d q off sp e).2.1 hc.size, (d q off sp e).2.2⟩⟩⟩
/-- While changes are read. -/
structure RcL (w0 w1 : World) (T : TypeId) (p N : Nat) (s0 : PS) (F : List Nat) (y5 y6 : Value) (wr : World) : Prop where
  ex : ∃ (m on : Nat) (oa : Option Addr) (oc : Nat) (xs : List ChD) (s : PS), y5 = .slice oa on oc ∧ y6 = .int .i64 (m : Int) ∧ on + m ≤ N ∧ OwnC wr w1.heap.size ⟨oa, on, oc⟩ xs ∧ RdS T wr p s F ∧ Below w0.heap.size w0 wr ∧ w1.heap.size ≤ wr.heap.size ∧ rdL N s0 = (xs.map ChD.cg ++ (rdL m s).1, (rdL m s).2)
theorem read5_any (a : Option Addr) (n c : Nat) (b : List UInt8) (w : World) (hb : RdB w a n b) (hno : a = none → c = 0) (hn : n ≤ 140737488355328) :
    Calls Try.prog 14 #[.slice a n c] w (ReadRes w b) := by
  obtain ⟨i, hi, hz0, hz1, hz2⟩ := info_parts chInfo
  have HB := hid hb; have HNO := hid hno
  clear hb hno
  go_enter Try.func14, Try.ntmps14
  go_wp2_with fail
  refine (oNewReader_any a n c b _ HB.out HNO.out hn).mono ?_
  rintro e w1 ⟨p, F, rfl, hrr, hF1, hb1⟩
  dsimp only
  have hr1 : RdS 112 w1 p (b, false) F := ⟨by have := HB.out.len; show b.length ≤ _; omega, F, hrr, fun q hq => hq⟩
  have HR1 := hid hr1; have HF1 := hid hF1; have HB1 := hid hb1
  have HFL := hid (show ∀ q ∈ F, q < w1.heap.size from hrr.lt)
  clear hrr
  clear hr1 hF1 hb1
  go_wp2_with fail
  refine (soU16_any p (b, false) F _ HR1.out).mono ?_
  rintro e w2 ⟨rfl, hc2, hr2⟩
  dsimp only
  obtain ⟨hm0, hm1⟩ := pI2_small (b, false)
  obtain ⟨N, hN⟩ := Int.eq_ofNat_of_zero_le hm0
  have HN := hid hN
  have hN5 : N ≤ 65535 := by omega
  rw [hN]
  obtain ⟨s1, hs1⟩ : ∃ s, (pI 2 (b, false)).2 = s := ⟨_, rfl⟩
  rw [hs1] at hr2
  have HS1 := hid hs1
  have HR2 := hid hr2
  have HB2 := hid (HB1.out.trans (hc2.below (fun q hq => by rw [List.mem_singleton.1 hq]; exact HF1.out p HR1.out.mem) HB1.out.size))
  have HZ2 := hid hc2.size
  clear hs1 hN hm0 hm1 hr2 hc2 HR1
  go_wp2_with fail
  go_loopw [5, 6] (fun y5 y6 wr => RcL w w1 112 p N s1 F y5 y6 wr) (fun _ y6 _ => (intOf y6).toNat)
  case atStart => exact ⟨⟨N, 0, none, 0, [], s1, rfl, rfl, by omega, OwnC.nil _ _, HR2.out, HB2.out, HZ2.out, by simp⟩⟩
  case round =>
    clear HR2 HB2 HZ2
    obtain ⟨m, on, oa, oc, xs, s, rfl, rfl, hon, hown, hrd, hbw, hz1', heq⟩ := hrel.ex
    clear hrel
    have HO := hid hown; have HRD := hid hrd; have HBW := hid hbw; have HZ := hid hz1'; have HEQ := hid heq
    clear hown hrd hbw hz1' heq
    by_cases km : 0 < m
    · obtain ⟨m, rfl⟩ : ∃ j, m = j + 1 := ⟨m - 1, by omega⟩
      have kmz : (0 : Int) < ((m + 1 : Nat) : Int) := by omega
      go_wp2_with fail
      refine (soLack_any p s F _ HRD.out).mono ?_
      rintro e u ⟨rfl, rfl⟩
      dsimp only
      cases hlk : s.2 with
      | true => 
        have HLK := hid hlk
        clear hlk
        have HEQ2 := hid (show rdL N s1 = (xs.map ChD.cg, s) from by rw [HEQ.out, rdL_stop HLK.out, List.append_nil])
        go_wp2_with fail
        refine (lay5_any oa on oc xs _ (HO.out.q (by show on ≤ _; omega)).ch).mono ?_
        intro e w3 hres
        obtain ⟨hb3, hres⟩ := hres
        have HB3 := hid hb3
        have HBT := hid (HBW.out.trans (hb3.mono HBW.out.size))
        have HRD3 := hid (HRD.out.below hb3)
        have HO3 := hid (HO.out.below hb3)
        have HOK := hid (readCs_eq HN.out HS1.out HEQ2.out)
        clear HO HRD HBW hb3
        rcases hres with ⟨hok, a2, n2, c2, rfl, ho2⟩ | ⟨hok, rfl⟩
        · have HOKL := hid hok; have HO2 := hid ho2
          dsimp only
          clear hok ho2
          go_wp2_with fail
          refine (soLack_any p s F _ HRD3.out).mono ?_
          rintro e u ⟨rfl, rfl⟩
          dsimp only
          cases hlk2 : s.2 with
          | true =>
            have HLK2 := hid hlk2
            clear hlk2
            go_wp2_with fail
            go_ret2
            exact ⟨HBT.out, .inr ⟨by rw [HOK.out, if_neg (fun h => by have := h.1; rw [HLK2.out] at this; cases this)], rfl⟩⟩
          | false =>
            have HLK2 := hid hlk2
            clear hlk2
            go_wp2_with fail
            refine (equalB_any a2 a n2 c2 n c _ b _ (RdB.of_own HO2.out) (HB.out.below HBT.out) (by have h1 := (RdB.of_own HO2.out).len; have h2 := layCs_len HOKL.out; omega)).mono ?_
            rintro e w4 ⟨rfl, hb4⟩
            dsimp only
            have HB4 := hid hb4
            clear hb4
            by_cases heq : layCs (xs.map ChD.cg) = b
            · rw [decide_eq_true heq]
              have HQ := hid heq
              clear heq
              go_wp2_with fail
              go_ret2
              exact ⟨HBT.out.trans (HB4.out.mono HBT.out.size), .inl ⟨oa, on, oc, xs, rfl, by rw [HOK.out, if_pos ⟨HLK2.out, HOKL.out, HQ.out⟩], ((HO3.out.below HB4.out).q (by show on ≤ _; omega)).wide (fun q hq => ⟨Nat.le_trans HB1.out.size hq.1, hq.2⟩)⟩⟩
            · rw [decide_eq_false heq]
              have HQ := hid heq
              clear heq
              go_wp2_with fail
              go_ret2
              exact ⟨HBT.out.trans (HB4.out.mono HBT.out.size), .inr ⟨by rw [HOK.out, if_neg (fun h => HQ.out h.2.2)], rfl⟩⟩
        · have HOKL := hid hok
          dsimp only
          clear hok
          go_wp2_with fail
          refine (soLack_any p s F _ HRD3.out).mono ?_
          rintro e u ⟨rfl, rfl⟩
          dsimp only
          have HNO2 := hid (show readCs b = none from by rw [HOK.out, if_neg (fun h => by have := h.2.1; rw [HOKL.out] at this; cases this)])
          generalize s.2 = lk at *
          cases lk <;> (go_wp2_with fail; go_ret2; exact ⟨HBT.out, .inr ⟨HNO2.out, rfl⟩⟩)
      | false =>
        have HLK := hid hlk
        clear hlk
        go_wp2_with fail
        refine (soShort_any p s F _ HRD.out).mono ?_
        rintro e w3 ⟨ka, kn, kc, rfl, how, hc3, hr3⟩
        dsimp only
        have kcv := run_bytes_str (P := Try.prog) (RdB.of_own how) kc 24 9 5 Try.underlying24 Try.underlying5 Try.underlying9
        go_upto_region 7 with (first | (refine wpList_alloc_obj rfl 59 rfl _ chZero ?_) | (refine wpList_store_obj rfl 59 _ _ rfl w3.heap.size rfl #[.string ⟨(pS s).1.toArray⟩, .bool false, .slice none 0 0] rfl _ _ (block_new w3 _) rfl chSize (by simp [Value.oneCell']) ?_; intro w5 hb5 hc5 hs5; have HX := hid hb5; have HC5 := hid hc5; clear hb5 hc5 hs5))
        have hbel : Below w3.heap.size w3 w5 := ((Below.refl _ w3).alloc (Nat.le_refl _) _).trans (HC5.out.below (fun k hk => by rw [List.mem_singleton.1 hk]; exact Nat.le_refl _) (by simp))
        have hpF : p ∈ F := HRD.out.mem
        have hpb := HFL.out p hpF
        have hpl := HF1.out p hpF
        have HO5 := hid ((HO.out.keep hc3 (fun q hq => by rw [List.mem_singleton.1 hq]; exact hpb)).below hbel)
        have HR5 := hid (hr3.below hbel)
        have HB5 := hid ((HBW.out.trans (hc3.below (fun q hq => by rw [List.mem_singleton.1 hq]; exact hpl) HBW.out.size)).trans (hbel.mono (Nat.le_trans HBW.out.size hc3.size)))
        have HZ5 := hid (Nat.le_trans HZ.out (Nat.le_trans hc3.size hbel.size))
        have HZ3 := hid (Nat.le_trans HZ.out hc3.size)
        have HPB := hid hpb; have HPL := hid hpl
        have HLT := hid ((HO.out.keep hc3 (fun q hq => by rw [List.mem_singleton.1 hq]; exact hpb)).low)
        have HSL := hid (Nat.le_trans (pS_len s) HRD.out.1)
        clear how hc3 hr3 kcv hbel hpF hpb hpl HC5 HO HRD HBW HZ
        generalize w3.heap.size = bs at *
        go_wp2_with fail
        refine (soU8_any p (pS s).2 F _ HR5.out).mono ?_
        rintro e w6 ⟨rfl, hc6, hr6⟩
        dsimp only
        have HX6 := hid ((hc6.block _ (block_lt HX.out) (fun hm => by have h1 := List.mem_singleton.1 hm; have h2 := HZ3.out; have h3 := HPB.out; omega)).trans HX.out)
        have HB6 := hid (HB5.out.trans (hc6.below (fun q hq => by rw [List.mem_singleton.1 hq]; exact HPL.out) HB5.out.size))
        have HO6 := hid (HO5.out.keep hc6 (fun q hq => by rw [List.mem_singleton.1 hq]; exact HPB.out))
        have HR6 := hid hr6
        have HZ6 := hid (Nat.le_trans HZ5.out hc6.size)
        clear hc6 hr6 HX HB5 HO5 HR5 HZ5
        have c1 : w6.cell? ⟨bs, 1, none⟩ = some (.bool false) := cell_of_block (j := 1) HX6.out rfl
        have f1 : ∀ j, w6.frozen? ⟨bs, j, none⟩ = false := fun j => frozen_of_block HX6.out
        obtain ⟨hv, hhv⟩ : ∃ y, ((pI 1 (pS s).2).1 == 1) = y := ⟨_, rfl⟩
        have HHV := hid hhv
        go_upto_region 8 with (fail)
        clear c1 f1 hhv
        have hx7 := block_setCell (j := 1) HX6.out (.bool hv)
        have hb7 : Chg [bs] w6 (w6.setCell ⟨bs, 1, none⟩ (.bool hv)) := (Chg.refl [bs] w6).setCell (.inl (by simp)) _
        generalize w6.setCell ⟨bs, 1, none⟩ (.bool hv) = w7 at *
        have hbF : bs ∉ F := fun hm => by have h1 := HFL.out _ hm; have h2 := HZ3.out; omega
        have HX7 := hid (show w7.heap[bs]? = some (.cells #[.string ⟨(pS s).1.toArray⟩, .bool hv, .slice none 0 0] 59 (0, 0)) from hx7)
        have HBL := hid (show w.heap.size ≤ bs from Nat.le_trans HB1.out.size HZ3.out)
        have HB7 := hid (HB6.out.trans (hb7.below (fun q hq => by rw [List.mem_singleton.1 hq]; exact HBL.out) HB6.out.size))
        have HO7 := hid (HO6.out.keepLt HLT.out hb7 (fun q hq => by rw [List.mem_singleton.1 hq]; exact Nat.le_refl _))
        have HR7 := hid (HR6.out.keep hb7 (fun q hq hm => hbF (by rw [← List.mem_singleton.1 hm]; exact hq)))
        have HZ7 := hid (Nat.le_trans HZ6.out hb7.size)
        clear hx7 hb7 HX6 HB6 HO6 HR6 HZ6
        have c1 : w7.cell? ⟨bs, 1, none⟩ = some (.bool hv) := cell_of_block (j := 1) HX7.out rfl
        cases hv with
        | true =>
          go_upto_region 9 with (fail)
          clear c1
          go_wp2_with fail
          refine (soShort_any p (pI 1 (pS s).2).2 F _ HR7.out).mono ?_
          rintro e w8 ⟨va, vn, vc, rfl, ho8, hc8, hr8⟩
          dsimp only
          have HX8 := hid ((hc8.block _ (block_lt HX7.out) (fun hm => by have h1 := List.mem_singleton.1 hm; have h2 := HZ3.out; have h3 := HPB.out; omega)).trans HX7.out)
          have HB8 := hid (HB7.out.trans (hc8.below (fun q hq => by rw [List.mem_singleton.1 hq]; exact HPL.out) HB7.out.size))
          have HO8 := hid (HO7.out.keep hc8 (fun q hq => by rw [List.mem_singleton.1 hq]; exact HPB.out))
          have HR8 := hid hr8
          have HZ8 := hid (Nat.le_trans HZ7.out hc8.size)
          have HV8 := hid ho8
          have HVL := hid (Nat.le_trans (pS_len (pI 1 (pS s).2).2) HR7.out.1)
          have HL7 := hid HO7.out.low
          have HBS7 := hid (block_lt HX7.out)
          have HZ78 := hid hc8.size
          clear hc8 hr8 ho8 HX7 HB7 HO7 HR7
          have c1 : w8.cell? ⟨bs, 2, none⟩ = some (.slice none 0 0) := cell_of_block (j := 2) HX8.out rfl
          have f1 : ∀ j, w8.frozen? ⟨bs, j, none⟩ = false := fun j => frozen_of_block HX8.out
          go_upto_region 10 with (fail)
          clear c1 f1
          have hx9 := block_setCell (j := 2) HX8.out (.slice va vn vc)
          have hb9 : Chg [bs] w8 (w8.setCell ⟨bs, 2, none⟩ (.slice va vn vc)) := (Chg.refl [bs] w8).setCell (.inl (by simp)) _
          generalize w8.setCell ⟨bs, 2, none⟩ (.slice va vn vc) = w9 at *
          obtain ⟨x, hx⟩ : ∃ x : ChD, x = ⟨⟨(pS s).1.toArray⟩, true, va, vn, vc, (pS (pI 1 (pS s).2).2).1⟩ := ⟨_, rfl⟩
          obtain ⟨sN, hsN⟩ : ∃ y, y = (pS (pI 1 (pS s).2).2).2 := ⟨_, rfl⟩
          have HX := hid hx; have HSN := hid hsN
          have HCG := hid (show rdC s = (x.cg, sN) from by rw [HX.out, HSN.out, rdC_on (by have := HHV.out; simpa using this)]; rfl)
          have HXB := hid (show w9.heap[bs]? = some (.cells x.cells.toArray 59 (0, 0)) from by rw [HX.out]; exact hx9)
          have HOW := hid (HO8.out.keepLt HLT.out hb9 (fun q hq => by rw [List.mem_singleton.1 hq]; exact Nat.le_refl _))
          have HBW2 := hid (HB8.out.trans (hb9.below (fun q hq => by rw [List.mem_singleton.1 hq]; exact HBL.out) HB8.out.size))
          have HZW := hid (Nat.le_trans HZ8.out hb9.size)
          have HRW := hid (show RdS 112 w9 p sN F from by rw [HSN.out]; exact HR8.out.keep hb9 (fun q hq hm => hbF (by rw [← List.mem_singleton.1 hm]; exact hq)))
          have HXO := hid (show x.ok w9 from by
            rw [HX.out]
            exact ⟨hb9.rdB (RdB.of_own HV8.out) (fun b off sp e hm => by have h1 := (own_at HV8.out b off sp e).1; have h2 := List.mem_singleton.1 hm; have h3 := HBS7.out; omega), (own_slice HV8.out).2.1, by have h1 := (RdB.of_own HV8.out).len; have h2 := HVL.out; show vn ≤ _; omega, by show (pS s).1.toArray.size ≤ _; rw [List.size_toArray]; exact Nat.le_trans HSL.out (by decide)⟩)
          have HVB := hid (show ∀ b off sp, x.va = some ⟨b, off, sp⟩ → w1.heap.size ≤ b ∧ b < w9.heap.size ∧ (Sl.mk oa on oc).v.ownBlock ≠ some b from by
            rw [HX.out]
            intro b off sp e
            have h1 := own_at HV8.out b off sp e
            have h2 := hb9.size; have h3 := HZ7.out
            exact ⟨by omega, by omega, fun he => by have := HL7.out.1 b he; omega⟩)
          clear hx hsN hx9 hb9 HX8 HB8 HO8 HR8 HZ8 HV8 HVL HL7 HX HSN
          have HEX := hid (show rdL N s1 = ((xs ++ [x]).map ChD.cg ++ (rdL m sN).1, (rdL m sN).2) from by
            rw [HEQ.out, rdL_go HLK.out, List.map_append, List.append_assoc, HCG.out]
            rfl)
          have HGA := hid ((Below.refl w9.heap.size w9).alloc (Nat.le_refl _) (.cells x.cells.toArray 59))
          have HOA := hid (HOW.out.below HGA.out)
          go_wp2_with (first | (refine wpList_load_row rfl 59 _ rfl bs rfl _ _ _ _ HXB.out Try.underlying59 rfl chSize ?_) | (refine wpList_buildSlice rfl 23 59 1 _ rfl x.cells.toArray i _ Try.underlying23 hi hz0 (by rw [hz1]; decide) (by rw [hz1]; decide) (by rw [hz1]; kernel_rfl) ?_) | (at_builtin; refine haltI ?_))
          refine haltO ?_
          refine wpList_append_c rfl _ _ 23 rfl w1.heap.size 59 i _ 3 48 Try.underlying23 hi hz0 hz1 hz2 rfl (by decide) (.slice oa on oc) on _ rfl HOA.out.own (some ⟨w9.heap.size, 0, none⟩) 1 1 x.cells rfl (RdC.new _ _ _ _ x.cells (by simp) 3 rfl _ rfl) (fun u hu => by have := cells_one [x] u; rw [List.flatMap_cons, List.flatMap_nil, List.append_nil] at this; exact this hu) (fun hx => by cases hx) (by unfold maxLen; omega) (by omega) (by have h1 := HZW.out; have h2 := HGA.out.size; omega) ?_
          intro a' c' w10 hown hgw hfr
          have hap := OwnC.app (s := ⟨oa, on, oc⟩) HOW.out HGA.out HXO.out HVB.out hown hgw hfr
          have hb10 : Chg ((Value.slice oa on oc).ownBlock.toList) w9 w10 := (Chg.of_below HGA.out _).grown hgw (fun k hk => .inl (by rw [hk]; simp))
          have HRR : RcL w w1 112 p N s1 F (.slice a' (on + 1) c') (.int .i64 (m : Int)) w10 := ⟨⟨m, on + 1, a', c', xs ++ [x], sN, rfl, rfl, by omega, hap, HRW.out.keep hb10 (fun q hq hm => by
            have h1 := (HOW.out.own.lt q (by simpa using hm)).1
            have h2 := HFL.out q hq
            omega), HBW2.out.trans (hb10.below (fun q hq => by
            have h1 := (HOW.out.own.lt q (by simpa using hq)).1
            exact Nat.le_trans HB1.out.size h1) HBW2.out.size), Nat.le_trans HZW.out hb10.size, HEX.out⟩⟩
          clear hown hgw hfr hap hb10
          go_wp2_with fail
          go_roundw
          case rel => first | exact HRR | ((repeat apply Exists.intro); exact HRR) | ((repeat apply Exists.intro); exact ⟨HRR, rfl⟩)
          case measure => (simp [intOf] <;> omega)
        | false =>
          go_upto_region 10 with (fail)
          clear c1
          obtain ⟨x, hx⟩ : ∃ x : ChD, x = ⟨⟨(pS s).1.toArray⟩, false, none, 0, 0, []⟩ := ⟨_, rfl⟩
          obtain ⟨sN, hsN⟩ : ∃ y, y = (pI 1 (pS s).2).2 := ⟨_, rfl⟩
          have HX := hid hx; have HSN := hid hsN
          have HCG := hid (show rdC s = (x.cg, sN) from by rw [HX.out, HSN.out, rdC_off (by have := HHV.out; simpa using this)]; rfl)
          have HXB := hid (show w7.heap[bs]? = some (.cells x.cells.toArray 59 (0, 0)) from by rw [HX.out]; exact HX7.out)
          have HOW := HO7; have HBW2 := HB7; have HZW := HZ7
          have HRW := hid (show RdS 112 w7 p sN F from by rw [HSN.out]; exact HR7.out)
          have HXO := hid (show x.ok w7 from by
            rw [HX.out]
            exact ⟨⟨rfl, fun j hj => absurd hj (Nat.not_lt_zero _)⟩, fun _ => rfl, Nat.zero_le _, by show (pS s).1.toArray.size ≤ _; rw [List.size_toArray]; exact Nat.le_trans HSL.out (by decide)⟩)
          have HVB := hid (show ∀ b off sp, x.va = some ⟨b, off, sp⟩ → w1.heap.size ≤ b ∧ b < w7.heap.size ∧ (Sl.mk oa on oc).v.ownBlock ≠ some b from by
            rw [HX.out]
            intro b off sp e
            cases e)
          clear hx hsN HX7 HX HSN
          have HEX := hid (show rdL N s1 = ((xs ++ [x]).map ChD.cg ++ (rdL m sN).1, (rdL m sN).2) from by
            rw [HEQ.out, rdL_go HLK.out, List.map_append, List.append_assoc, HCG.out]
            rfl)
          have HGA := hid ((Below.refl w7.heap.size w7).alloc (Nat.le_refl _) (.cells x.cells.toArray 59))
          have HOA := hid (HOW.out.below HGA.out)
          go_wp2_with (first | (refine wpList_load_row rfl 59 _ rfl bs rfl _ _ _ _ HXB.out Try.underlying59 rfl chSize ?_) | (refine wpList_buildSlice rfl 23 59 1 _ rfl x.cells.toArray i _ Try.underlying23 hi hz0 (by rw [hz1]; decide) (by rw [hz1]; decide) (by rw [hz1]; kernel_rfl) ?_) | (at_builtin; refine haltI ?_))
          refine haltO ?_
          refine wpList_append_c rfl _ _ 23 rfl w1.heap.size 59 i _ 3 48 Try.underlying23 hi hz0 hz1 hz2 rfl (by decide) (.slice oa on oc) on _ rfl HOA.out.own (some ⟨w7.heap.size, 0, none⟩) 1 1 x.cells rfl (RdC.new _ _ _ _ x.cells (by simp) 3 rfl _ rfl) (fun u hu => by have := cells_one [x] u; rw [List.flatMap_cons, List.flatMap_nil, List.append_nil] at this; exact this hu) (fun hx => by cases hx) (by unfold maxLen; omega) (by omega) (by have h1 := HZW.out; have h2 := HGA.out.size; omega) ?_
          intro a' c' w10 hown hgw hfr
          have hap := OwnC.app (s := ⟨oa, on, oc⟩) HOW.out HGA.out HXO.out HVB.out hown hgw hfr
          have hb10 : Chg ((Value.slice oa on oc).ownBlock.toList) w7 w10 := (Chg.of_below HGA.out _).grown hgw (fun k hk => .inl (by rw [hk]; simp))
          have HRR : RcL w w1 112 p N s1 F (.slice a' (on + 1) c') (.int .i64 (m : Int)) w10 := ⟨⟨m, on + 1, a', c', xs ++ [x], sN, rfl, rfl, by omega, hap, HRW.out.keep hb10 (fun q hq hm => by
            have h1 := (HOW.out.own.lt q (by simpa using hm)).1
            have h2 := HFL.out q hq
            omega), HBW2.out.trans (hb10.below (fun q hq => by
            have h1 := (HOW.out.own.lt q (by simpa using hq)).1
            exact Nat.le_trans HB1.out.size h1) HBW2.out.size), Nat.le_trans HZW.out hb10.size, HEX.out⟩⟩
          clear hown hgw hfr hap hb10
          go_wp2_with fail
          go_roundw
          case rel => first | exact HRR | ((repeat apply Exists.intro); exact HRR) | ((repeat apply Exists.intro); exact ⟨HRR, rfl⟩)
          case measure => (simp [intOf] <;> omega)
    · have km0 : m = 0 := by omega
      subst km0
      have HEQ2 := hid (show rdL N s1 = (xs.map ChD.cg, s) from by rw [HEQ.out]; show (xs.map ChD.cg ++ [], s) = _; rw [List.append_nil])
      go_wp2_with fail
      refine (lay5_any oa on oc xs _ (HO.out.q (by show on ≤ _; omega)).ch).mono ?_
      intro e w3 hres
      obtain ⟨hb3, hres⟩ := hres
      have HB3 := hid hb3
      have HBT := hid (HBW.out.trans (hb3.mono HBW.out.size))
      have HRD3 := hid (HRD.out.below hb3)
      have HO3 := hid (HO.out.below hb3)
      have HOK := hid (readCs_eq HN.out HS1.out HEQ2.out)
      clear HO HRD HBW hb3
      rcases hres with ⟨hok, a2, n2, c2, rfl, ho2⟩ | ⟨hok, rfl⟩
      · have HOKL := hid hok; have HO2 := hid ho2
        dsimp only
        clear hok ho2
        go_wp2_with fail
        refine (soLack_any p s F _ HRD3.out).mono ?_
        rintro e u ⟨rfl, rfl⟩
        dsimp only
        cases hlk2 : s.2 with
        | true =>
          have HLK2 := hid hlk2
          clear hlk2
          go_wp2_with fail
          go_ret2
          exact ⟨HBT.out, .inr ⟨by rw [HOK.out, if_neg (fun h => by have := h.1; rw [HLK2.out] at this; cases this)], rfl⟩⟩
        | false =>
          have HLK2 := hid hlk2
          clear hlk2
          go_wp2_with fail
          refine (equalB_any a2 a n2 c2 n c _ b _ (RdB.of_own HO2.out) (HB.out.below HBT.out) (by have h1 := (RdB.of_own HO2.out).len; have h2 := layCs_len HOKL.out; omega)).mono ?_
          rintro e w4 ⟨rfl, hb4⟩
          dsimp only
          have HB4 := hid hb4
          clear hb4
          by_cases heq : layCs (xs.map ChD.cg) = b
          · rw [decide_eq_true heq]
            have HQ := hid heq
            clear heq
            go_wp2_with fail
            go_ret2
            exact ⟨HBT.out.trans (HB4.out.mono HBT.out.size), .inl ⟨oa, on, oc, xs, rfl, by rw [HOK.out, if_pos ⟨HLK2.out, HOKL.out, HQ.out⟩], ((HO3.out.below HB4.out).q (by show on ≤ _; omega)).wide (fun q hq => ⟨Nat.le_trans HB1.out.size hq.1, hq.2⟩)⟩⟩
          · rw [decide_eq_false heq]
            have HQ := hid heq
            clear heq
            go_wp2_with fail
            go_ret2
            exact ⟨HBT.out.trans (HB4.out.mono HBT.out.size), .inr ⟨by rw [HOK.out, if_neg (fun h => HQ.out h.2.2)], rfl⟩⟩
      · have HOKL := hid hok
        dsimp only
        clear hok
        go_wp2_with fail
        refine (soLack_any p s F _ HRD3.out).mono ?_
        rintro e u ⟨rfl, rfl⟩
        dsimp only
        have HNO2 := hid (show readCs b = none from by rw [HOK.out, if_neg (fun h => by have := h.2.1; rw [HOKL.out] at this; cases this)])
        generalize s.2 = lk at *
        cases lk <;> (go_wp2_with fail; go_ret2; exact ⟨HBT.out, .inr ⟨HNO2.out, rfl⟩⟩)
end Go.Proofs.Ytipkeifpkemcdaa
