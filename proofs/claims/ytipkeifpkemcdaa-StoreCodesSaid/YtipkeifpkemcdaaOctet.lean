/- octet: what each call does to a Writer, a Reader. -/
import Derived.Test.YtipkeifpkemcdaaRows
import Derived.Test.YtipkeifpkemcdaaMem
import Derived.Test.YtipkeifpkemcdaaOctPlain
import Derived.Deep.RegionLaw
import Derived.WalkLawsBesides
namespace Go.Proofs.Ytipkeifpkemcdaa
open Go.RowKit
set_option linter.unusedVariables false
set_option linter.unusedSimpArgs false
set_option maxRecDepth 1000000

theorem infoB' : (Try.prog.info? 5).map (fun i => (i.zero, i.size, i.bytes)) = some (some (.int .u8 0), 1, 1) := by kernel_rfl

/-- A writer's block p (of type T) has bytes l of its own: F: its blocks. -/
def Wr (T : TypeId) (w : World) (p : Nat) (l : List UInt8) (F : List Nat) : Prop :=
  ∃ a m c, l.length = m ∧ w.heap[p]? = some (.cells #[.slice a m c] T (0, 0)) ∧ w.ownsRow 0 5 1 (.slice a m c) m (l.map B8) ∧ (∀ g, (Value.slice a m c).ownBlock = some g → g ≠ p) ∧
    F = p :: (Value.slice a m c).ownBlock.toList

theorem Wr.keep {T : TypeId} {w w' : World} {p : Nat} {l : List UInt8} {F G : List Nat} (h : Wr T w p l F) (hc : Chg G w w') (hd : Disj F G) : Wr T w' p l F := by
  obtain ⟨a, m, c, hm, h1, h2, h3, rfl⟩ := h
  refine ⟨a, m, c, hm, ?_, ?_, h3, rfl⟩
  · rw [hc.block p (block_lt h1) (hd p (by simp))]; exact h1
  · exact hc.owns h2 (fun k hk => hd k (by simp [hk]))
theorem Wr.lt {T : TypeId} {w : World} {p : Nat} {l : List UInt8} {F : List Nat} (h : Wr T w p l F) : ∀ k ∈ F, k < w.heap.size := by
  obtain ⟨a, m, c, hm, h1, h2, h3, rfl⟩ := h
  intro k hk
  rcases List.mem_cons.1 hk with rfl | hk
  · exact block_lt h1
  · exact (h2.lt k (by simpa using hk)).2
/-- Behind an append to its bytes and the store of the new slice. -/
theorem Wr.put {T : TypeId} (hT : T ≠ 5) {w0 w w' : World} {p : Nat} {l news : List UInt8} {F : List Nat} {a : Option Addr} {m c : Nat} {a' : Option Addr} {c' k : Nat} (hm : l.length = m) (hk : news.length = k)
    (h1 : w0.heap[p]? = some (.cells #[.slice a m c] T (0, 0))) (h3 : ∀ g, (Value.slice a m c).ownBlock = some g → g ≠ p) (hF : F = p :: (Value.slice a m c).ownBlock.toList)
    (hb : Below w0.heap.size w0 w) (ho : w'.ownsRow 0 5 1 (.slice a' (m + k) c') (m + k) (l.map B8 ++ news.map B8)) (hg : w.grownBy w' (Value.slice a m c).ownBlock)
    (hn : (Value.slice a' (m + k) c').ownBlock = (Value.slice a m c).ownBlock ∨ ∀ q, (Value.slice a' (m + k) c').ownBlock = some q → w.heap.size ≤ q) :
    ∃ F', Wr T (w'.setCell ⟨p, 0, none⟩ (.slice a' (m + k) c')) p (l ++ news) F' ∧ Chg F w0 (w'.setCell ⟨p, 0, none⟩ (.slice a' (m + k) c')) ∧ Fresh F F' w0 := by
  have hp : p < w0.heap.size := block_lt h1
  have hsz := hb.size
  have hblk : w'.heap[p]? = some (.cells #[.slice a m c] T (0, 0)) := by
    rw [hg.block p (by omega) (fun e => h3 p e.symm rfl), hb.block p hp]; exact h1
  have hne : ∀ g, (Value.slice a' (m + k) c').ownBlock = some g → g ≠ p := by
    intro g hgo
    rcases hn with h | h
    · exact h3 g (h ▸ hgo)
    · have := h g hgo; omega
  refine ⟨p :: (Value.slice a' (m + k) c').ownBlock.toList, ⟨a', m + k, c', by simp [hm, hk], ?_, ?_, hne, rfl⟩, ?_, ?_⟩
  · have := block_setCell (j := 0) hblk (.slice a' (m + k) c')
    simpa using this
  · rw [List.map_append]
    exact (Chg.setCell (Chg.refl [p] w') (.inl (by simp)) _).owns ho (fun q hq hm' => hne q hq (by simpa using hm'))
  · refine Chg.setCell (Chg.grown (Chg.of_below hb F) hg ?_) (.inl ?_) _
    · intro q hq; left; subst hF; simp [hq]
    · subst hF; simp
  · intro q hq
    subst hF
    rcases List.mem_cons.1 hq with rfl | hq
    · left; simp
    · rcases hn with h | h
      · left; rw [h] at hq; simp [hq]
      · right; have := h q (by simpa using hq); omega

theorem Fresh.trans {F F1 F2 : List Nat} {w w1 : World} (h : Fresh F F1 w) (k : Fresh F1 F2 w1) (hs : w.heap.size ≤ w1.heap.size) : Fresh F F2 w := by
  intro q hq
  rcases k q hq with h' | h'
  · exact h q h'
  · right; omega

/-- A reader's block p (of type T): the bytes l are left; has it lacked? F: its blocks. -/
def Rr (T : TypeId) (w : World) (p : Nat) (l : List UInt8) (lack : Bool) (F : List Nat) : Prop :=
  ∃ a n c, l.length = n ∧ w.heap[p]? = some (.cells #[.slice a n c, .bool lack] T (0, 0)) ∧ RdB w a n l ∧ n ≤ c ∧ (a = none → c = 0) ∧ (∀ b off sp, a = some ⟨b, off, sp⟩ → b ≠ p ∧ b < w.heap.size) ∧
    F = p :: (a.map (·.block)).toList
theorem Rr.keep {T : TypeId} {w w' : World} {p : Nat} {l : List UInt8} {lack : Bool} {F G : List Nat} (h : Rr T w p l lack F) (hc : Chg G w w') (hd : Disj F G) : Rr T w' p l lack F := by
  obtain ⟨a, n, c, hn, h1, h2, h3, h4, h5, rfl⟩ := h
  refine ⟨a, n, c, hn, ?_, ?_, h3, h4, ?_, rfl⟩
  · rw [hc.block p (block_lt h1) (hd p (by simp))]; exact h1
  · exact hc.rdB h2 (fun b off sp hb => hd b (by simp [hb]))
  · intro b off sp hb; exact ⟨(h5 b off sp hb).1, Nat.lt_of_lt_of_le (h5 b off sp hb).2 hc.size⟩
theorem Rr.lt {T : TypeId} {w : World} {p : Nat} {l : List UInt8} {lack : Bool} {F : List Nat} (h : Rr T w p l lack F) : ∀ k ∈ F, k < w.heap.size := by
  obtain ⟨a, n, c, hn, h1, h2, h3, h4, h5, rfl⟩ := h
  intro k hk
  rcases List.mem_cons.1 hk with rfl | hk
  · exact block_lt h1
  · cases a with
    | none => simp at hk
    | some x => obtain ⟨b, off, sp⟩ := x; simp at hk; subst hk; exact (h5 _ _ _ rfl).2
theorem own_ge {w : World} {base : Nat} {e : TypeId} {size : Nat} {a : Option Addr} {n c : Nat} {xs : List Value} (h : w.ownsRow base e size (.slice a n c) n xs) {q : Nat} (hq : q ∈ (a.map (·.block)).toList) : base ≤ q := by
  cases a with
  | none => simp at hq
  | some x => simp at hq; subst hq; exact (h.lt _ rfl).1
theorem Rr.mk_new {T : TypeId} {w : World} {B n c : Nat} {a : Option Addr} {l : List UInt8} (hl : l.length = n) (ho : w.ownsRow B 5 1 (.slice a n c) n (l.map B8)) (hB : B ≤ w.heap.size) :
    Rr T (w.alloc (.cells #[.slice a n c, .bool false] T)) w.heap.size l false (w.heap.size :: (a.map (·.block)).toList) := by
  refine ⟨a, n, c, hl, block_new _ _, ?_, (own_slice ho).1, (own_slice ho).2.1, ?_, rfl⟩
  · exact (RdB.of_own ho).below ((Below.refl _ _).alloc (Nat.le_refl _) _)
  · intro b off sp hb
    subst hb
    have := (ho.lt b rfl).2
    refine ⟨by omega, by simp; omega⟩


theorem oput_any (p n : Nat) (l : List UInt8) (F : List Nat) (v : Nat) (w : World) (h : Wr 108 w p l F) (hv : v < 18446744073709551616) (hn : n ≤ 8) (hlen : l.length + 8 ≤ 140737488355328) :
    Calls Try.prog 62 #[.pointer (some ⟨p, 0, none⟩), .int .u64 v, .int .i64 n] w fun e w' => ∃ F', e = .returned (.tuple #[]) ∧ Wr 108 w' p (l ++ be n v) F' ∧ Chg F w w' ∧ Fresh F F' w := by
  obtain ⟨i, hi, hz0, hz1, hz2⟩ := info_parts infoB'
  have H := hid h; clear h
  go_enter Try.func62, Try.ntmps62
  go_wp2
  go_loopw [6] (fun x wr => ∃ (q : Nat) (F' : List Nat), q ≤ n ∧ x = .int .i64 ((q : Int) - 1) ∧ Wr 108 wr p (l ++ (be n v).take (n - q)) F' ∧ Chg F w wr ∧ Fresh F F' w) (fun x _ => (intOf x + 1).toNat)
  case atStart => exact ⟨n, F, Nat.le_refl _, rfl, by simpa using H.out, Chg.refl _ _, fun k hk => .inl hk⟩
  case round =>
    obtain ⟨q, F', hq, rfl, hw, hc, hf⟩ := hrel
    rcases q with _ | r
    · go_wp2
      go_end0
      refine ⟨F', rfl, ?_, hc, hf⟩
      simpa [be_take_all] using hw
    · obtain ⟨a, m, c, hm, h1, h2, h3, hF⟩ := hw
      have hcell : wr.cell? ⟨p, 0, none⟩ = some (.slice a m c) := cell_of_block h1 rfl
      have hfz := frozen_of_block (j := 0) h1
      have hcA := cell_alloc hcell
      have H1 := hid h1; have H2 := hid h2; have H3 := hid h3; have HC := hid hc; have HF := hid hf; have HM := hid hm
      clear h1 h2 h3 hc hf H hm
      have e1 : IntKind.i64.wrap (8 * (r : Int)) = 8 * (r : Int) := IntWalk.i64_in _ (by omega)
      have e2 : (0 : Int) ≤ 8 * (r : Int) := by omega
      have e3 : (8 * (r : Int)).toNat = 8 * r := by omega
      rw [show (((r + 1 : Nat) : Int) - 1) = (r : Int) by omega]
      have hv8 : IntKind.u8.wrap ((v : Int) / 2 ^ (8 * r)) = ((byteAt v r).toNat : Int) := by rw [byteAt_val, IntKind.wrap_u8]
      have HP : Hid (∀ w', ((wr.alloc (.cells #[B8 (byteAt v r)] 5)).drew).grownBy w' (Value.slice a m c).ownBlock → w'.heap[p]? = some (.cells #[.slice a m c] 108 (0, 0))) := by
        intro w' hg
        rw [hg.block p (by have := block_lt H1.out; simp; omega) (fun e => H3.out p e.symm rfl)]
        exact (Below.heap_alloc _ _ _ (block_lt H1.out)).trans H1.out
      have hml : m ≤ 140737488355320 + 8 - 1 := by have := HM.out; simp [be_len] at this; omega
      go_wp2
      go_region_law (refine step_append_c rfl _ _ 24 rfl 0 5 i _ 1 1 Try.underlying24 hi hz0 hz1 hz2 rfl (by decide) _ m _ rfl (H2.out.alloc _) _ _ _ [B8 (byteAt v r)] rfl (RdC.drew (RdC.new wr _ _ _ _ rfl 1 rfl _ rfl)) (by intro u hu; simp at hu; subst hu; rfl) (by simp) (by unfold maxLen; omega) (by omega) (Nat.zero_le _) ?_; intro a' c' w' ho hg hn; have hcell' : w'.cell? ⟨p, 0, none⟩ = some (.slice a m c) := cell_of_block (HP.out _ hg) rfl; have hfz' := frozen_of_block (j := 0) (HP.out _ hg); have HO := hid ho; have HG := hid hg; have HN := hid hn; clear ho hg hn)
      all_goals
        go_wp2
        go_roundw
        case rel =>
          obtain ⟨F'', k1, k2, k3⟩ := Wr.put (T := 108) (by decide) (news := [byteAt v r]) HM.out rfl H1.out H3.out hF (((Below.refl _ _).alloc (Nat.le_refl _) _).drew) HO.out HG.out HN.out
          refine ⟨r, F'', by omega, rfl, ?_, HC.out.trans k2 HF.out, HF.out.trans k3 HC.out.size⟩
          have e : (be n v).take (n - r) = (be n v).take (n - (r + 1)) ++ [byteAt v r] := by
            have := be_take n v (n - (r + 1)) (by omega)
            rw [show n - (r + 1) + 1 = n - r by omega, show n - 1 - (n - (r + 1)) = r by omega] at this
            exact this
          rw [e, ← List.append_assoc]
          exact k1
        case measure => simp [intOf]
theorem oU8_any (p : Nat) (l : List UInt8) (F : List Nat) (z : Int) (w : World) (h : Wr 108 w p l F) (hlen : l.length + 8 ≤ 140737488355328) :
    Calls Try.prog 36 #[.pointer (some ⟨p, 0, none⟩), .int .i64 z] w fun e w' => ∃ F', e = .returned (.tuple #[]) ∧ Wr 108 w' p (l ++ be 1 (u64nat z)) F' ∧ Chg F w w' ∧ Fresh F F' w := by
  have H := hid h; clear h
  go_enter Try.func36, Try.ntmps36
  go_wp2_with fail
  rw [u64nat_eq z]
  refine (oput_any p 1 l F _ _ H.out (u64nat_lt z) (by decide) hlen).mono ?_
  rintro e w1 ⟨F', rfl, h1, h2, h3⟩
  go_wp2_with fail
  go_end0
  exact ⟨F', rfl, h1, h2, h3⟩
theorem oU16_any (p : Nat) (l : List UInt8) (F : List Nat) (z : Int) (w : World) (h : Wr 108 w p l F) (hlen : l.length + 8 ≤ 140737488355328) :
    Calls Try.prog 34 #[.pointer (some ⟨p, 0, none⟩), .int .i64 z] w fun e w' => ∃ F', e = .returned (.tuple #[]) ∧ Wr 108 w' p (l ++ be 2 (u64nat z)) F' ∧ Chg F w w' ∧ Fresh F F' w := by
  have H := hid h; clear h
  go_enter Try.func34, Try.ntmps34
  go_wp2_with fail
  rw [u64nat_eq z]
  refine (oput_any p 2 l F _ _ H.out (u64nat_lt z) (by decide) hlen).mono ?_
  rintro e w1 ⟨F', rfl, h1, h2, h3⟩
  go_wp2_with fail
  go_end0
  exact ⟨F', rfl, h1, h2, h3⟩
theorem oU32_any (p : Nat) (l : List UInt8) (F : List Nat) (z : Int) (w : World) (h : Wr 108 w p l F) (hlen : l.length + 8 ≤ 140737488355328) :
    Calls Try.prog 95 #[.pointer (some ⟨p, 0, none⟩), .int .i64 z] w fun e w' => ∃ F', e = .returned (.tuple #[]) ∧ Wr 108 w' p (l ++ be 4 (u64nat z)) F' ∧ Chg F w w' ∧ Fresh F F' w := by
  have H := hid h; clear h
  go_enter Try.func95, Try.ntmps95
  go_wp2_with fail
  rw [u64nat_eq z]
  refine (oput_any p 4 l F _ _ H.out (u64nat_lt z) (by decide) hlen).mono ?_
  rintro e w1 ⟨F', rfl, h1, h2, h3⟩
  go_wp2_with fail
  go_end0
  exact ⟨F', rfl, h1, h2, h3⟩
theorem oU64_any (p : Nat) (l : List UInt8) (F : List Nat) (v : Nat) (w : World) (h : Wr 108 w p l F) (hv : v < 18446744073709551616) (hlen : l.length + 8 ≤ 140737488355328) :
    Calls Try.prog 94 #[.pointer (some ⟨p, 0, none⟩), .int .u64 v] w fun e w' => ∃ F', e = .returned (.tuple #[]) ∧ Wr 108 w' p (l ++ be 8 v) F' ∧ Chg F w w' ∧ Fresh F F' w := by
  have H := hid h; clear h
  go_enter Try.func94, Try.ntmps94
  go_wp2_with fail
  refine (oput_any p 8 l F _ _ H.out hv (by decide) hlen).mono ?_
  rintro e w1 ⟨F', rfl, h1, h2, h3⟩
  go_wp2_with fail
  go_end0
  exact ⟨F', rfl, h1, h2, h3⟩
theorem oRaw_any (p : Nat) (l : List UInt8) (F : List Nat) (ab : Option Addr) (k cb : Nat) (b : List UInt8) (w : World) (h : Wr 108 w p l F) (hb : RdB w ab k b) (hnone : ab = none → cb = 0) (hlen : l.length + k ≤ 140737488355328) :
    Calls Try.prog 63 #[.pointer (some ⟨p, 0, none⟩), .slice ab k cb] w fun e w' => ∃ F', e = .returned (.tuple #[]) ∧ Wr 108 w' p (l ++ b) F' ∧ Chg F w w' ∧ Fresh F F' w := by
  obtain ⟨i, hi, hz0, hz1, hz2⟩ := info_parts infoB'
  obtain ⟨a, m, c, hm, h1, h2, h3, hF⟩ := h
  have hcell : w.cell? ⟨p, 0, none⟩ = some (.slice a m c) := cell_of_block h1 rfl
  have hfz := frozen_of_block (j := 0) h1
  have hml : m + k ≤ 140737488355328 := by omega
  have H1 := hid h1; have H2 := hid h2; have H3 := hid h3; have HM := hid hm; have HB := hid hb; have HNN := hid hnone
  clear h1 h2 h3 hm hb hnone
  have HP : Hid (∀ w', w.grownBy w' (Value.slice a m c).ownBlock → w'.heap[p]? = some (.cells #[.slice a m c] 108 (0, 0))) := by
    intro w' hg
    rw [hg.block p (block_lt H1.out) (fun e => H3.out p e.symm rfl)]
    exact H1.out
  go_enter Try.func63, Try.ntmps63
  go_wp2_with (at_builtin; refine wpList_append_c rfl _ _ 24 rfl 0 5 i _ 1 1 Try.underlying24 hi hz0 hz1 hz2 rfl (by decide) _ m _ rfl H2.out _ k _ (b.map B8) rfl (by rw [Nat.mul_one]; exact HB.out.toC) (B8_one b) HNN.out (by unfold maxLen; omega) (by omega) (Nat.zero_le _) ?_; intro a' c' w' ho hg hn; have hcell' : w'.cell? ⟨p, 0, none⟩ = some (.slice a m c) := cell_of_block (HP.out _ hg) rfl; have hfz' := frozen_of_block (j := 0) (HP.out _ hg); have HO := hid ho; have HG := hid hg; have HN := hid hn; clear ho hg hn)
  go_end0
  obtain ⟨F'', k1, k2, k3⟩ := Wr.put (T := 108) (by decide) (news := b) HM.out HB.out.len H1.out H3.out hF (Below.refl _ _) HO.out HG.out HN.out
  exact ⟨F'', rfl, k1, k2, k3⟩
theorem oShort_any (p : Nat) (l : List UInt8) (F : List Nat) (ab : Option Addr) (k cb : Nat) (b : List UInt8) (w : World) (h : Wr 108 w p l F) (hb : RdB w ab k b) (hnone : ab = none → cb = 0) (hab : ∀ w1, Chg F w w1 → RdB w1 ab k b) (hk65 : k ≤ 65535) (hlen : l.length + 65600 ≤ 140737488355328) :
    Calls Try.prog 35 #[.pointer (some ⟨p, 0, none⟩), .slice ab k cb] w fun e w' => ∃ F', e = .returned (.bool true) ∧ Wr 108 w' p (l ++ be 2 k ++ b) F' ∧ Chg F w w' ∧ Fresh F F' w := by
  have H := hid h; clear h
  have HB := hid hb; have HNN := hid hnone; have HA := hid hab
  clear hb hnone hab
  go_enter Try.func35, Try.ntmps35
  go_wp2_with fail
  refine (oU16_any p l F _ _ H.out (by omega)).mono ?_
  rintro e w1 ⟨F1, rfl, h1, h2, h3⟩
  rw [u64nat_nat k (by omega)] at h1
  have H1 := hid h1; have H2 := hid h2; have H3 := hid h3
  clear h1 h2 h3
  go_wp2_with fail
  refine (oRaw_any p (l ++ be 2 k) F1 ab k cb b _ H1.out (HA.out _ H2.out) HNN.out (by rw [List.length_append, be_len]; omega)).mono ?_
  rintro e w2 ⟨F2, rfl, h4, h5, h6⟩
  have H4 := hid h4; have H5 := hid h5; have H6 := hid h6
  clear h4 h5 h6
  go_wp2_with fail
  go_ret
  exact ⟨F2, rfl, H4.out, H2.out.trans H5.out H3.out, H3.out.trans H6.out H2.out.size⟩
theorem oShort_long (p k cb : Nat) (ab : Option Addr) (w : World) (hk65 : 65535 < k) :
    Calls Try.prog 35 #[.pointer (some ⟨p, 0, none⟩), .slice ab k cb] w fun e w' => e = .returned (.bool false) ∧ w = w' := by
  go_enter Try.func35, Try.ntmps35
  go_wp2_with fail
  go_ret
  exact ⟨rfl, rfl⟩
theorem oNew_any (w : World) :
    Calls Try.prog 33 #[] w fun e w' => e = .returned (.pointer (some ⟨w.heap.size, 0, none⟩)) ∧ Wr 108 w' w.heap.size [] [w.heap.size] ∧ Below w.heap.size w w' ∧ w.heap.size < w'.heap.size := by
  go_enter Try.func33, Try.ntmps33
  go_wp2
  go_ret
  exact ⟨rfl, ⟨none, 0, 0, rfl, block_new _ _, World.ownsRow_nil _ _ _ _, (fun g hg => by cases hg), rfl⟩, (Below.refl _ _).alloc (Nat.le_refl _) _, by simp⟩
theorem oBytes_any (p : Nat) (l : List UInt8) (F : List Nat) (w : World) (h : Wr 108 w p l F) (hlen : l.length ≤ 140737488355328) :
    Calls Try.prog 37 #[.pointer (some ⟨p, 0, none⟩)] w fun e w' => ∃ a' n' c', e = .returned (.slice a' n' c') ∧ w'.ownsRow w.heap.size 5 1 (.slice a' n' c') n' (l.map B8) ∧ Below w.heap.size w w' := by
  obtain ⟨i, hi, hz0, hz1, hz2⟩ := info_parts infoB'
  obtain ⟨a, m, c, hm, h1, h2, h3, hF⟩ := h
  have hcell : w.cell? ⟨p, 0, none⟩ = some (.slice a m c) := cell_of_block h1 rfl
  have hcA := cell_alloc hcell
  have HM := hid hm; have HR := hid (RdB.of_own h2); have HNN := hid (own_slice h2).2.1
  have hml : m ≤ 140737488355328 := by omega
  clear hm h1 h2 h3 hF
  go_enter Try.func37, Try.ntmps37
  go_wp2_with (at_builtin; refine wpList_append_bytes rfl _ _ 24 rfl w.heap.size 5 i _ Try.underlying24 hi hz0 hz1 hz2 rfl _ 0 [] rfl (World.ownsRow_made w #[] 0 (Nat.le_refl _) (by unfold maxLen; omega) rfl) _ _ _ _ rfl (HR.out.below (Below.alloc (Below.refl _ _) (Nat.le_refl _) _)) HNN.out (by omega) (by simp) ?_; intro a' c' w1 hown hg; have HO := hid hown; have HG := hid hg; clear hown hg)
  go_ret
  have ho := HO.out
  rw [List.nil_append, Nat.zero_add] at ho
  refine ⟨a', _, c', rfl, ho, ((Below.refl _ _).alloc (Nat.le_refl _) _).grown HG.out (by simp) (by intro q hq; cases hq; exact Nat.le_refl _)⟩
theorem oNewReader_any (ab : Option Addr) (k cb : Nat) (b : List UInt8) (w : World) (hb : RdB w ab k b) (hnone : ab = none → cb = 0) (hlen : k ≤ 140737488355328) :
    Calls Try.prog 41 #[.slice ab k cb] w fun e w' => ∃ p F, e = .returned (.pointer (some ⟨p, 0, none⟩)) ∧ Rr 112 w' p b false F ∧ (∀ q ∈ F, w.heap.size ≤ q) ∧ Below w.heap.size w w' := by
  obtain ⟨i, hi, hz0, hz1, hz2⟩ := info_parts infoB'
  have HB := hid hb; have HNN := hid hnone
  clear hb hnone
  go_enter Try.func41, Try.ntmps41
  go_wp2_with (at_builtin; refine wpList_append_bytes rfl _ _ 24 rfl w.heap.size 5 i _ Try.underlying24 hi hz0 hz1 hz2 rfl _ 0 [] rfl (World.ownsRow_made w #[] 0 (Nat.le_refl _) (by unfold maxLen; omega) rfl) _ _ _ _ rfl (HB.out.below (Below.alloc (Below.refl _ _) (Nat.le_refl _) _)) HNN.out (by omega) (by simp) ?_; intro a' c' w1 hown hg; have HO := hid hown; have HG := hid hg; clear hown hg)
  go_ret
  have ho := HO.out
  have hbe := ((Below.refl w.heap.size w).alloc (Nat.le_refl _) _).grown HG.out (by simp) (by intro q hq; cases hq; exact Nat.le_refl _)
  rw [List.nil_append, Nat.zero_add] at ho
  refine ⟨_, _, rfl, Rr.mk_new HB.out.len ho hbe.size, ?_, hbe.alloc hbe.size _⟩
  intro q hq
  rcases List.mem_cons.1 hq with rfl | hq
  · exact hbe.size
  · exact own_ge ho hq
theorem oTake_any (p : Nat) (l : List UInt8) (lack : Bool) (F : List Nat) (z : Int) (w : World) (h : Rr 112 w p l lack F) (hlen : l.length ≤ 140737488355328) :
    Calls Try.prog 67 #[.pointer (some ⟨p, 0, none⟩), .int .i64 z] w fun e w' => ∃ a' n' c', e = .returned (.slice a' n' c') ∧ w'.ownsRow w.heap.size 5 1 (.slice a' n' c') n' ((taken l lack z).map B8) ∧ Chg [p] w w' ∧
      ∃ F', Rr 112 w' p (restOf l lack z) (lackOf l lack z) F' ∧ (∀ q ∈ F', q ∈ F) := by
  obtain ⟨i, hi, hz0, hz1, hz2⟩ := info_parts infoB'
  obtain ⟨a, n, c, hn, h1, hr, hnc, hnone, hblk, hF⟩ := h
  have hcell0 : w.cell? ⟨p, 0, none⟩ = some (.slice a n c) := cell_of_block h1 rfl
  have hcell1 : w.cell? ⟨p, 1, none⟩ = some (.bool lack) := cell_of_block h1 rfl
  have hfz0 := frozen_of_block (j := 0) h1
  have hfz1 := frozen_of_block (j := 1) h1
  have hcA := cell_alloc hcell0
  have hnl : n ≤ 140737488355328 := by omega
  have H1 := hid h1; have HR := hid hr; have HNN := hid hnone; have HL := hid hn; have HBK := hid hblk
  have hp : p < w.heap.size := block_lt h1
  have HPF := hid (show p ∈ F by rw [hF]; simp)
  have HFF := hid hF; clear hF
  clear h1 hr hnone hn hblk
  by_cases hbad : lack = true ∨ z < 0 ∨ (n : Int) < z
  · have HT : Hid (taken l lack z = [] ∧ restOf l lack z = [] ∧ lackOf l lack z = true) := taken_bad (by rw [HL.out]; exact hbad)
    have fin : ∃ F', Rr 112 (((w.setCell ⟨p, 0, none⟩ (.slice none 0 0)).setCell ⟨p, 1, none⟩ (.bool true))) p [] true F' ∧ Chg [p] w ((w.setCell ⟨p, 0, none⟩ (.slice none 0 0)).setCell ⟨p, 1, none⟩ (.bool true)) ∧ (∀ q ∈ F', q ∈ F) ∧
        Rr 112 (((w.setCell ⟨p, 1, none⟩ (.bool true)).setCell ⟨p, 0, none⟩ (.slice none 0 0))) p [] true F' ∧ Chg [p] w ((w.setCell ⟨p, 1, none⟩ (.bool true)).setCell ⟨p, 0, none⟩ (.slice none 0 0)) := by
      refine ⟨[p], ⟨none, 0, 0, rfl, ?_, RdB.nil _ _, Nat.le_refl _, fun _ => rfl, (fun _ _ _ h => by cases h), rfl⟩, ?_, ?_, ⟨none, 0, 0, rfl, ?_, RdB.nil _ _, Nat.le_refl _, fun _ => rfl, (fun _ _ _ h => by cases h), rfl⟩, ?_⟩
      · have := block_setCell (j := 1) (block_setCell (j := 0) H1.out (.slice none 0 0)) (.bool true)
        simpa using this
      · exact ((Chg.refl [p] w).setCell (.inl (by simp)) _).setCell (.inl (by simp)) _
      · intro q hq; simp at hq; rw [hq]; exact HPF.out
      · have := block_setCell (j := 0) (block_setCell (j := 1) H1.out (.bool true)) (.slice none 0 0)
        simpa using this
      · exact ((Chg.refl [p] w).setCell (.inl (by simp)) _).setCell (.inl (by simp)) _
    have FIN := hid fin; clear fin
    cases lack
    · by_cases hz : z < 0
      · have hb1 : decide (z < 0) = true := by simpa using hz
        clear hbad
        go_enter Try.func67, Try.ntmps67
        go_wp2_with fail
        go_ret
        rw [HT.out.1, HT.out.2.1, HT.out.2.2]
        obtain ⟨F', k1, k2, k3, k4, k5⟩ := FIN.out
        first | exact ⟨none, 0, 0, rfl, World.ownsRow_nil _ _ _ _, k2, F', k1, k3⟩ | exact ⟨none, 0, 0, rfl, World.ownsRow_nil _ _ _ _, k5, F', k4, k3⟩
      · have hz2' : (n : Int) < z := by simpa [hz] using hbad
        clear hbad
        go_enter Try.func67, Try.ntmps67
        go_wp2_with fail
        go_ret
        rw [HT.out.1, HT.out.2.1, HT.out.2.2]
        obtain ⟨F', k1, k2, k3, k4, k5⟩ := FIN.out
        first | exact ⟨none, 0, 0, rfl, World.ownsRow_nil _ _ _ _, k2, F', k1, k3⟩ | exact ⟨none, 0, 0, rfl, World.ownsRow_nil _ _ _ _, k5, F', k4, k3⟩
    · clear hbad
      go_enter Try.func67, Try.ntmps67
      go_wp2_with fail
      go_ret
      rw [HT.out.1, HT.out.2.1, HT.out.2.2]
      obtain ⟨F', k1, k2, k3, k4, k5⟩ := FIN.out
      first | exact ⟨none, 0, 0, rfl, World.ownsRow_nil _ _ _ _, k2, F', k1, k3⟩ | exact ⟨none, 0, 0, rfl, World.ownsRow_nil _ _ _ _, k5, F', k4, k3⟩
  · obtain ⟨hl, hz0', hz1'⟩ : lack = false ∧ 0 ≤ z ∧ z ≤ (n : Int) := by
      refine ⟨by cases lack <;> simp_all, ?_, ?_⟩ <;> omega
    clear hbad
    subst hl
    obtain ⟨k, rfl⟩ := Int.eq_ofNat_of_zero_le hz0'
    have hk : k ≤ n := by omega
    have HT : Hid (taken l false (k : Int) = l.take k ∧ restOf l false (k : Int) = l.drop k ∧ lackOf l false (k : Int) = false) := taken_good (by rw [HL.out]; exact hk)
    obtain ⟨a2, ha2⟩ : ∃ a2, (if c = k then a else a.map (·.add (k * 1))) = a2 := ⟨_, rfl⟩
    have HA2 := hid (drop_facts HR.out hk hnc HNN.out ha2)
    have hsl1 := fun w => run_slice_front (P := Try.prog) 24 5 1 Try.underlying24 (fun w => by kernel_rfl) a n c k (by omega) w
    have hsl2 := fun w => run_slice_back (P := Try.prog) 24 5 1 Try.underlying24 (fun w => by kernel_rfl) a n c k hk w
    rw [ha2] at hsl2
    clear ha2
    go_enter Try.func67, Try.ntmps67
    go_wp2_with (at_builtin; refine wpList_append_bytes rfl _ _ 24 rfl w.heap.size 5 i _ Try.underlying24 hi hz0 hz1 hz2 rfl _ 0 [] rfl (World.ownsRow_made w #[] 0 (Nat.le_refl _) (by unfold maxLen; omega) rfl) _ _ _ (l.take k) rfl ((HR.out.take hk).below (Below.alloc (Below.refl _ _) (Nat.le_refl _) _)) HNN.out (by omega) (by simp) ?_; intro a' c' w1 hown hg; have hw1 := ((Below.refl w.heap.size w).alloc (Nat.le_refl _) _).grown hg (by simp) (by intro q hq; cases hq; exact Nat.le_refl _); have hcell0' := (hw1.cell (p := ⟨p, 0, none⟩) hp).trans hcell0; have hfz0' := (hw1.frozen (p := ⟨p, 0, none⟩) hp).trans hfz0; have HO := hid hown; have HW := hid hw1; clear hown hw1 hg)
    go_ret
    rw [HT.out.1, HT.out.2.1, HT.out.2.2]
    have hblk1 := (HW.out.block p hp).trans H1.out
    obtain ⟨g1, g2, g3, g4⟩ := HA2.out
    refine ⟨_, _, _, rfl, ?_, ?_, F, ⟨a2, n - k, c - k, by rw [List.length_drop, HL.out], ?_, ?_, by omega, g2, ?_, ?_⟩, fun q hq => hq⟩
    · have ho := HO.out
      simp only [List.nil_append, Nat.zero_add] at ho
      refine (Chg.setCell (Chg.refl [p] _) (.inl (by simp)) _).owns ho ?_
      intro q hq hm
      have := (ho.lt q hq).1
      simp at hm; omega
    · exact ((Chg.of_below HW.out [p]).setCell (.inl (by simp)) _)
    · have := block_setCell (j := 0) hblk1 (.slice a2 (n - k) (c - k))
      simpa using this
    · refine (Chg.setCell (Chg.refl [p] _) (.inl (by simp)) _).rdB (g1.below HW.out) ?_
      intro b off sp hb hm
      obtain ⟨off', sp', h'⟩ := g3 b off sp hb
      exact (HBK.out b off' sp' h').1 (by simpa using hm)
    · intro b off sp hb
      obtain ⟨off', sp', h'⟩ := g3 b off sp hb
      exact ⟨(HBK.out b off' sp' h').1, by have h1 := (HBK.out b off' sp' h').2; have h2 := HW.out.size; simp [World.setCell]; omega⟩
    · rw [HFF.out, g4]
theorem oget_any (p n : Nat) (l : List UInt8) (lack : Bool) (F : List Nat) (w : World) (h : Rr 112 w p l lack F) (hlen : l.length ≤ 140737488355328) :
    Calls Try.prog 66 #[.pointer (some ⟨p, 0, none⟩), .int .i64 n] w fun e w' => e = .returned (.int .u64 ((num (taken l lack n) : Nat) : Int)) ∧ Chg [p] w w' ∧
      ∃ F', Rr 112 w' p (restOf l lack n) (lackOf l lack n) F' ∧ (∀ q ∈ F', q ∈ F) := by
  have H := hid h; clear h
  go_enter Try.func66, Try.ntmps66
  go_wp2_with fail
  refine (oTake_any p l lack F n _ H.out hlen).mono ?_
  rintro e w1 ⟨a, m, c, rfl, ho, hc, hx⟩
  have HR := hid (RdB.of_own ho); have HC := hid hc; have HX := hid hx
  have hm : m ≤ 140737488355328 := by
    have h1 := (RdB.of_own ho).len
    have h2 : (taken l lack (n : Int)).length ≤ l.length := by unfold taken; split <;> simp; omega
    omega
  clear ho hc hx
  have HL := hid HR.out.len
  generalize hout : taken l lack (n : Int) = out at *
  have HOUT := hid hout; clear hout
  go_wp2_with fail
  go_loop [5, 12] (fun x i => ∃ k : Nat, k ≤ m ∧ i = .int .i64 k ∧ x = .int .u64 ((num (out.take k) : Nat) : Int)) (fun _ i => m - (intOf i).toNat)
  case atStart => exact ⟨0, Nat.zero_le _, rfl, rfl⟩
  case round =>
    obtain ⟨k, hk, rfl, rfl⟩ := hrel
    by_cases hlt : k < m
    · obtain ⟨b, off, rfl, hcc⟩ := HR.out.cell k hlt
      have hcell : w1.cell? ⟨b, off + k, none⟩ = some (.int .u8 ((out.getD k 0).toNat : Int)) := hcc k hlt
      clear hcc
      have hbyte := (out.getD k 0).toNat_lt
      have HT : Hid (num (out.take (k + 1)) = (num (out.take k) * 256 + (out.getD k 0).toNat) % 18446744073709551616) := by
        show _ = _
        rw [take_snoc' out k (by rw [HL.out]; exact hlt), num_snoc]
      generalize out.getD k 0 = x at *
      generalize num (out.take k) = V at *
      have HW := hid (or_byte V x)
      go_wp2
      go_round
      case rel =>
        first
          | exact ⟨k + 1, by omega, by go_num, by rw [HW.out, HT.out]⟩
          | exact ⟨_, ⟨k + 1, by omega, by go_num, by rw [HW.out, HT.out]⟩, rfl⟩
          | exact ⟨_, _, ⟨k + 1, by omega, by go_num, by rw [HW.out, HT.out]⟩, rfl, rfl⟩
      case measure => simp [intOf]; omega
    · obtain rfl : k = m := by omega
      have HT : Hid (out.take k = out) := by show _ = _; rw [← HL.out, List.take_length]
      go_wp2
      go_ret
      refine ⟨by rw [HT.out, HOUT.out]; rfl, HC.out, HX.out⟩
theorem oRU8_any (p : Nat) (l : List UInt8) (lack : Bool) (F : List Nat) (w : World) (h : Rr 112 w p l lack F) (hlen : l.length ≤ 140737488355328) :
    Calls Try.prog 45 #[.pointer (some ⟨p, 0, none⟩)] w fun e w' => e = .returned (.int .i64 (asInt (num (taken l lack 1)))) ∧ Chg [p] w w' ∧
      ∃ F', Rr 112 w' p (restOf l lack 1) (lackOf l lack 1) F' ∧ (∀ q ∈ F', q ∈ F) := by
  have H := hid h; clear h
  go_enter Try.func45, Try.ntmps45
  go_wp2_with fail
  refine (oget_any p 1 l lack F _ H.out hlen).mono ?_
  rintro e w1 ⟨rfl, h2, h3⟩
  have hnl := num_lt (taken l lack ((1 : Nat) : Int))
  have H2 := hid h2; have H3 := hid h3; clear h2 h3
  generalize hN : num (taken l lack ((1 : Nat) : Int)) = N at *
  have HN := hid hN; clear hN
  go_wp2_with fail
  go_ret
  have h2 := H2.out; have h3 := H3.out
  have hN := HN.out
  show _ = Ending.returned (_) ∧ _
  refine ⟨?_, h2, h3⟩
  have e : num (taken l lack 1) = N := hN
  rw [e]
  exact i64_ret' (asInt_eq N)
theorem oRU16_any (p : Nat) (l : List UInt8) (lack : Bool) (F : List Nat) (w : World) (h : Rr 112 w p l lack F) (hlen : l.length ≤ 140737488355328) :
    Calls Try.prog 42 #[.pointer (some ⟨p, 0, none⟩)] w fun e w' => e = .returned (.int .i64 (asInt (num (taken l lack 2)))) ∧ Chg [p] w w' ∧
      ∃ F', Rr 112 w' p (restOf l lack 2) (lackOf l lack 2) F' ∧ (∀ q ∈ F', q ∈ F) := by
  have H := hid h; clear h
  go_enter Try.func42, Try.ntmps42
  go_wp2_with fail
  refine (oget_any p 2 l lack F _ H.out hlen).mono ?_
  rintro e w1 ⟨rfl, h2, h3⟩
  have hnl := num_lt (taken l lack ((2 : Nat) : Int))
  have H2 := hid h2; have H3 := hid h3; clear h2 h3
  generalize hN : num (taken l lack ((2 : Nat) : Int)) = N at *
  have HN := hid hN; clear hN
  go_wp2_with fail
  go_ret
  have h2 := H2.out; have h3 := H3.out
  have hN := HN.out
  show _ = Ending.returned (_) ∧ _
  refine ⟨?_, h2, h3⟩
  have e : num (taken l lack 2) = N := hN
  rw [e]
  exact i64_ret' (asInt_eq N)
theorem oRU32_any (p : Nat) (l : List UInt8) (lack : Bool) (F : List Nat) (w : World) (h : Rr 112 w p l lack F) (hlen : l.length ≤ 140737488355328) :
    Calls Try.prog 83 #[.pointer (some ⟨p, 0, none⟩)] w fun e w' => e = .returned (.int .i64 (asInt (num (taken l lack 4)))) ∧ Chg [p] w w' ∧
      ∃ F', Rr 112 w' p (restOf l lack 4) (lackOf l lack 4) F' ∧ (∀ q ∈ F', q ∈ F) := by
  have H := hid h; clear h
  go_enter Try.func83, Try.ntmps83
  go_wp2_with fail
  refine (oget_any p 4 l lack F _ H.out hlen).mono ?_
  rintro e w1 ⟨rfl, h2, h3⟩
  have hnl := num_lt (taken l lack ((4 : Nat) : Int))
  have H2 := hid h2; have H3 := hid h3; clear h2 h3
  generalize hN : num (taken l lack ((4 : Nat) : Int)) = N at *
  have HN := hid hN; clear hN
  go_wp2_with fail
  go_ret
  have h2 := H2.out; have h3 := H3.out
  have hN := HN.out
  show _ = Ending.returned (_) ∧ _
  refine ⟨?_, h2, h3⟩
  have e : num (taken l lack 4) = N := hN
  rw [e]
  exact i64_ret' (asInt_eq N)
theorem oRU64_any (p : Nat) (l : List UInt8) (lack : Bool) (F : List Nat) (w : World) (h : Rr 112 w p l lack F) (hlen : l.length ≤ 140737488355328) :
    Calls Try.prog 82 #[.pointer (some ⟨p, 0, none⟩)] w fun e w' => e = .returned (.int .u64 ((num (taken l lack 8) : Nat) : Int)) ∧ Chg [p] w w' ∧
      ∃ F', Rr 112 w' p (restOf l lack 8) (lackOf l lack 8) F' ∧ (∀ q ∈ F', q ∈ F) := by
  have H := hid h; clear h
  go_enter Try.func82, Try.ntmps82
  go_wp2_with fail
  refine (oget_any p 8 l lack F _ H.out hlen).mono ?_
  rintro e w1 ⟨rfl, h2, h3⟩
  have hnl := num_lt (taken l lack ((8 : Nat) : Int))
  have H2 := hid h2; have H3 := hid h3; clear h2 h3
  generalize hN : num (taken l lack ((8 : Nat) : Int)) = N at *
  have HN := hid hN; clear hN
  go_wp2_with fail
  go_ret
  have h2 := H2.out; have h3 := H3.out
  have hN := HN.out
  show _ = Ending.returned (_) ∧ _
  refine ⟨?_, h2, h3⟩
  have e : num (taken l lack 8) = N := hN
  rw [e]
  rfl
theorem oRShort_any (p : Nat) (l : List UInt8) (lack : Bool) (F : List Nat) (w : World) (h : Rr 112 w p l lack F) (hlen : l.length ≤ 140737488355328) :
    Calls Try.prog 44 #[.pointer (some ⟨p, 0, none⟩)] w fun e w' => ∃ a' n' c', e = .returned (.slice a' n' c') ∧ w'.ownsRow w.heap.size 5 1 (.slice a' n' c') n' ((shortOf l lack).map B8) ∧ Chg [p] w w' ∧
      ∃ F', Rr 112 w' p (shortRest l lack) (shortLack l lack) F' ∧ (∀ q ∈ F', q ∈ F) := by
  have H := hid h; clear h
  go_enter Try.func44, Try.ntmps44
  go_wp2_with fail
  refine (oRU16_any p l lack F _ H.out hlen).mono ?_
  rintro e w1 ⟨rfl, h2, F1, h3, h4⟩
  have H2 := hid h2; have H3 := hid h3; have H4 := hid h4; clear h2 h3 h4
  go_wp2_with fail
  refine (oTake_any p _ _ F1 _ _ H3.out (by have := rest_len l lack 2; omega)).mono ?_
  rintro e w2 ⟨a, m, c, rfl, ho, hc, F2, h5, h6⟩
  have HO := hid ho; have HC := hid hc; have H5 := hid h5; have H6 := hid h6; clear ho hc h5 h6
  go_wp2_with fail
  go_ret
  exact ⟨_, _, _, rfl, ownsRow_base HO.out (fun k hk => Nat.le_trans H2.out.size (HO.out.lt k hk).1), H2.out.trans HC.out (fun q hq => .inl hq), F2, H5.out, fun q hq => H4.out q (H6.out q hq)⟩
theorem oLack_any (p : Nat) (l : List UInt8) (lack : Bool) (F : List Nat) (w : World) (h : Rr 112 w p l lack F) :
    Calls Try.prog 43 #[.pointer (some ⟨p, 0, none⟩)] w fun e w' => e = .returned (.bool lack) ∧ w = w' := by
  obtain ⟨a, n, c, hn, h1, hr, hnc, hnone, hblk, hF⟩ := h
  have hcell1 : w.cell? ⟨p, 1, none⟩ = some (.bool lack) := cell_of_block h1 rfl
  clear hn h1 hr hnc hnone hblk hF
  go_enter Try.func43, Try.ntmps43
  go_wp2
  go_ret
  exact ⟨rfl, rfl⟩
theorem oLeft_any (p : Nat) (l : List UInt8) (lack : Bool) (F : List Nat) (w : World) (h : Rr 112 w p l lack F) :
    Calls Try.prog 86 #[.pointer (some ⟨p, 0, none⟩)] w fun e w' => e = .returned (.int .i64 l.length) ∧ w = w' := by
  obtain ⟨a, n, c, hn, h1, hr, hnc, hnone, hblk, hF⟩ := h
  have hcell0 : w.cell? ⟨p, 0, none⟩ = some (.slice a n c) := cell_of_block h1 rfl
  have HN := hid hn
  clear hn h1 hr hnc hnone hblk hF
  go_enter Try.func86, Try.ntmps86
  go_wp2
  go_ret
  exact ⟨by rw [HN.out]; rfl, rfl⟩
theorem rput_any (p n : Nat) (l : List UInt8) (F : List Nat) (v : Nat) (w : World) (h : Wr 73 w p l F) (hv : v < 18446744073709551616) (hn : n ≤ 8) (hlen : l.length + 8 ≤ 140737488355328) :
    Calls Try.prog 64 #[.pointer (some ⟨p, 0, none⟩), .int .u64 v, .int .i64 n] w fun e w' => ∃ F', e = .returned (.tuple #[]) ∧ Wr 73 w' p (l ++ be n v) F' ∧ Chg F w w' ∧ Fresh F F' w := by
  obtain ⟨i, hi, hz0, hz1, hz2⟩ := info_parts infoB'
  have H := hid h; clear h
  go_enter Try.func64, Try.ntmps64
  go_wp2
  go_loopw [6] (fun x wr => ∃ (q : Nat) (F' : List Nat), q ≤ n ∧ x = .int .i64 ((q : Int) - 1) ∧ Wr 73 wr p (l ++ (be n v).take (n - q)) F' ∧ Chg F w wr ∧ Fresh F F' w) (fun x _ => (intOf x + 1).toNat)
  case atStart => exact ⟨n, F, Nat.le_refl _, rfl, by simpa using H.out, Chg.refl _ _, fun k hk => .inl hk⟩
  case round =>
    obtain ⟨q, F', hq, rfl, hw, hc, hf⟩ := hrel
    rcases q with _ | r
    · go_wp2
      go_end0
      refine ⟨F', rfl, ?_, hc, hf⟩
      simpa [be_take_all] using hw
    · obtain ⟨a, m, c, hm, h1, h2, h3, hF⟩ := hw
      have hcell : wr.cell? ⟨p, 0, none⟩ = some (.slice a m c) := cell_of_block h1 rfl
      have hfz := frozen_of_block (j := 0) h1
      have hcA := cell_alloc hcell
      have H1 := hid h1; have H2 := hid h2; have H3 := hid h3; have HC := hid hc; have HF := hid hf; have HM := hid hm
      clear h1 h2 h3 hc hf H hm
      have e1 : IntKind.i64.wrap (8 * (r : Int)) = 8 * (r : Int) := IntWalk.i64_in _ (by omega)
      have e2 : (0 : Int) ≤ 8 * (r : Int) := by omega
      have e3 : (8 * (r : Int)).toNat = 8 * r := by omega
      rw [show (((r + 1 : Nat) : Int) - 1) = (r : Int) by omega]
      have hv8 : IntKind.u8.wrap ((v : Int) / 2 ^ (8 * r)) = ((byteAt v r).toNat : Int) := by rw [byteAt_val, IntKind.wrap_u8]
      have HP : Hid (∀ w', (wr.alloc (.cells #[B8 (byteAt v r)] 5)).grownBy w' (Value.slice a m c).ownBlock → w'.heap[p]? = some (.cells #[.slice a m c] 73 (0, 0))) := by
        intro w' hg
        rw [hg.block p (by have := block_lt H1.out; simp; omega) (fun e => H3.out p e.symm rfl)]
        exact (Below.heap_alloc _ _ _ (block_lt H1.out)).trans H1.out
      have hml : m ≤ 140737488355320 + 8 - 1 := by have := HM.out; simp [be_len] at this; omega
      go_wp2_with (at_builtin; refine wpList_append_c rfl _ _ 24 rfl 0 5 i _ 1 1 Try.underlying24 hi hz0 hz1 hz2 rfl (by decide) _ m _ rfl (H2.out.alloc _) _ _ _ [B8 (byteAt v r)] rfl (RdC.new wr _ _ _ _ rfl 1 rfl _ rfl) (by intro u hu; simp at hu; subst hu; rfl) (by simp) (by unfold maxLen; omega) (by omega) (Nat.zero_le _) ?_; intro a' c' w' ho hg hn; have hcell' : w'.cell? ⟨p, 0, none⟩ = some (.slice a m c) := cell_of_block (HP.out _ hg) rfl; have hfz' := frozen_of_block (j := 0) (HP.out _ hg); have HO := hid ho; have HG := hid hg; have HN := hid hn; clear ho hg hn)
      all_goals
        go_wp2
        go_roundw
        case rel =>
          obtain ⟨F'', k1, k2, k3⟩ := Wr.put (T := 73) (by decide) (news := [byteAt v r]) HM.out rfl H1.out H3.out hF ((Below.refl _ _).alloc (Nat.le_refl _) _) HO.out HG.out HN.out
          refine ⟨r, F'', by omega, rfl, ?_, HC.out.trans k2 HF.out, HF.out.trans k3 HC.out.size⟩
          have e : (be n v).take (n - r) = (be n v).take (n - (r + 1)) ++ [byteAt v r] := by
            have := be_take n v (n - (r + 1)) (by omega)
            rw [show n - (r + 1) + 1 = n - r by omega, show n - 1 - (n - (r + 1)) = r by omega] at this
            exact this
          rw [e, ← List.append_assoc]
          exact k1
        case measure => simp [intOf]
theorem rU8_any (p : Nat) (l : List UInt8) (F : List Nat) (z : Int) (w : World) (h : Wr 73 w p l F) (hlen : l.length + 8 ≤ 140737488355328) :
    Calls Try.prog 40 #[.pointer (some ⟨p, 0, none⟩), .int .i64 z] w fun e w' => ∃ F', e = .returned (.tuple #[]) ∧ Wr 73 w' p (l ++ be 1 (u64nat z)) F' ∧ Chg F w w' ∧ Fresh F F' w := by
  have H := hid h; clear h
  go_enter Try.func40, Try.ntmps40
  go_wp2_with fail
  rw [u64nat_eq z]
  refine (rput_any p 1 l F _ _ H.out (u64nat_lt z) (by decide) hlen).mono ?_
  rintro e w1 ⟨F', rfl, h1, h2, h3⟩
  go_wp2_with fail
  go_end0
  exact ⟨F', rfl, h1, h2, h3⟩
theorem rU16_any (p : Nat) (l : List UInt8) (F : List Nat) (z : Int) (w : World) (h : Wr 73 w p l F) (hlen : l.length + 8 ≤ 140737488355328) :
    Calls Try.prog 38 #[.pointer (some ⟨p, 0, none⟩), .int .i64 z] w fun e w' => ∃ F', e = .returned (.tuple #[]) ∧ Wr 73 w' p (l ++ be 2 (u64nat z)) F' ∧ Chg F w w' ∧ Fresh F F' w := by
  have H := hid h; clear h
  go_enter Try.func38, Try.ntmps38
  go_wp2_with fail
  rw [u64nat_eq z]
  refine (rput_any p 2 l F _ _ H.out (u64nat_lt z) (by decide) hlen).mono ?_
  rintro e w1 ⟨F', rfl, h1, h2, h3⟩
  go_wp2_with fail
  go_end0
  exact ⟨F', rfl, h1, h2, h3⟩
theorem rRaw_any (p : Nat) (l : List UInt8) (F : List Nat) (ab : Option Addr) (k cb : Nat) (b : List UInt8) (w : World) (h : Wr 73 w p l F) (hb : RdB w ab k b) (hnone : ab = none → cb = 0) (hlen : l.length + k ≤ 140737488355328) :
    Calls Try.prog 65 #[.pointer (some ⟨p, 0, none⟩), .slice ab k cb] w fun e w' => ∃ F', e = .returned (.tuple #[]) ∧ Wr 73 w' p (l ++ b) F' ∧ Chg F w w' ∧ Fresh F F' w := by
  obtain ⟨i, hi, hz0, hz1, hz2⟩ := info_parts infoB'
  obtain ⟨a, m, c, hm, h1, h2, h3, hF⟩ := h
  have hcell : w.cell? ⟨p, 0, none⟩ = some (.slice a m c) := cell_of_block h1 rfl
  have hfz := frozen_of_block (j := 0) h1
  have hml : m + k ≤ 140737488355328 := by omega
  have H1 := hid h1; have H2 := hid h2; have H3 := hid h3; have HM := hid hm; have HB := hid hb; have HNN := hid hnone
  clear h1 h2 h3 hm hb hnone
  have HP : Hid (∀ w', w.grownBy w' (Value.slice a m c).ownBlock → w'.heap[p]? = some (.cells #[.slice a m c] 73 (0, 0))) := by
    intro w' hg
    rw [hg.block p (block_lt H1.out) (fun e => H3.out p e.symm rfl)]
    exact H1.out
  go_enter Try.func65, Try.ntmps65
  go_wp2_with (at_builtin; refine wpList_append_c rfl _ _ 24 rfl 0 5 i _ 1 1 Try.underlying24 hi hz0 hz1 hz2 rfl (by decide) _ m _ rfl H2.out _ k _ (b.map B8) rfl (by rw [Nat.mul_one]; exact HB.out.toC) (B8_one b) HNN.out (by unfold maxLen; omega) (by omega) (Nat.zero_le _) ?_; intro a' c' w' ho hg hn; have hcell' : w'.cell? ⟨p, 0, none⟩ = some (.slice a m c) := cell_of_block (HP.out _ hg) rfl; have hfz' := frozen_of_block (j := 0) (HP.out _ hg); have HO := hid ho; have HG := hid hg; have HN := hid hn; clear ho hg hn)
  go_end0
  obtain ⟨F'', k1, k2, k3⟩ := Wr.put (T := 73) (by decide) (news := b) HM.out HB.out.len H1.out H3.out hF (Below.refl _ _) HO.out HG.out HN.out
  exact ⟨F'', rfl, k1, k2, k3⟩
theorem rShort_any (p : Nat) (l : List UInt8) (F : List Nat) (ab : Option Addr) (k cb : Nat) (b : List UInt8) (w : World) (h : Wr 73 w p l F) (hb : RdB w ab k b) (hnone : ab = none → cb = 0) (hab : ∀ w1, Chg F w w1 → RdB w1 ab k b) (hk65 : k ≤ 65535) (hlen : l.length + 65600 ≤ 140737488355328) :
    Calls Try.prog 39 #[.pointer (some ⟨p, 0, none⟩), .slice ab k cb] w fun e w' => ∃ F', e = .returned (.bool true) ∧ Wr 73 w' p (l ++ be 2 k ++ b) F' ∧ Chg F w w' ∧ Fresh F F' w := by
  have H := hid h; clear h
  have HB := hid hb; have HNN := hid hnone; have HA := hid hab
  clear hb hnone hab
  go_enter Try.func39, Try.ntmps39
  go_wp2_with fail
  refine (rU16_any p l F _ _ H.out (by omega)).mono ?_
  rintro e w1 ⟨F1, rfl, h1, h2, h3⟩
  rw [u64nat_nat k (by omega)] at h1
  have H1 := hid h1; have H2 := hid h2; have H3 := hid h3
  clear h1 h2 h3
  go_wp2_with fail
  refine (rRaw_any p (l ++ be 2 k) F1 ab k cb b _ H1.out (HA.out _ H2.out) HNN.out (by rw [List.length_append, be_len]; omega)).mono ?_
  rintro e w2 ⟨F2, rfl, h4, h5, h6⟩
  have H4 := hid h4; have H5 := hid h5; have H6 := hid h6
  clear h4 h5 h6
  go_wp2_with fail
  go_ret
  exact ⟨F2, rfl, H4.out, H2.out.trans H5.out H3.out, H3.out.trans H6.out H2.out.size⟩
theorem rShort_long (p k cb : Nat) (ab : Option Addr) (w : World) (hk65 : 65535 < k) :
    Calls Try.prog 39 #[.pointer (some ⟨p, 0, none⟩), .slice ab k cb] w fun e w' => e = .returned (.bool false) ∧ w = w' := by
  go_enter Try.func39, Try.ntmps39
  go_wp2_with fail
  go_ret
  exact ⟨rfl, rfl⟩
theorem rTake_any (p : Nat) (l : List UInt8) (lack : Bool) (F : List Nat) (z : Int) (w : World) (h : Rr 79 w p l lack F) (hlen : l.length ≤ 140737488355328) :
    Calls Try.prog 69 #[.pointer (some ⟨p, 0, none⟩), .int .i64 z] w fun e w' => ∃ a' n' c', e = .returned (.slice a' n' c') ∧ w'.ownsRow w.heap.size 5 1 (.slice a' n' c') n' ((taken l lack z).map B8) ∧ Chg [p] w w' ∧
      ∃ F', Rr 79 w' p (restOf l lack z) (lackOf l lack z) F' ∧ (∀ q ∈ F', q ∈ F) := by
  obtain ⟨i, hi, hz0, hz1, hz2⟩ := info_parts infoB'
  obtain ⟨a, n, c, hn, h1, hr, hnc, hnone, hblk, hF⟩ := h
  have hcell0 : w.cell? ⟨p, 0, none⟩ = some (.slice a n c) := cell_of_block h1 rfl
  have hcell1 : w.cell? ⟨p, 1, none⟩ = some (.bool lack) := cell_of_block h1 rfl
  have hfz0 := frozen_of_block (j := 0) h1
  have hfz1 := frozen_of_block (j := 1) h1
  have hcA := cell_alloc hcell0
  have hnl : n ≤ 140737488355328 := by omega
  have H1 := hid h1; have HR := hid hr; have HNN := hid hnone; have HL := hid hn; have HBK := hid hblk
  have hp : p < w.heap.size := block_lt h1
  have HPF := hid (show p ∈ F by rw [hF]; simp)
  have HFF := hid hF; clear hF
  clear h1 hr hnone hn hblk
  by_cases hbad : lack = true ∨ z < 0 ∨ (n : Int) < z
  · have HT : Hid (taken l lack z = [] ∧ restOf l lack z = [] ∧ lackOf l lack z = true) := taken_bad (by rw [HL.out]; exact hbad)
    have fin : ∃ F', Rr 79 (((w.setCell ⟨p, 0, none⟩ (.slice none 0 0)).setCell ⟨p, 1, none⟩ (.bool true))) p [] true F' ∧ Chg [p] w ((w.setCell ⟨p, 0, none⟩ (.slice none 0 0)).setCell ⟨p, 1, none⟩ (.bool true)) ∧ (∀ q ∈ F', q ∈ F) ∧
        Rr 79 (((w.setCell ⟨p, 1, none⟩ (.bool true)).setCell ⟨p, 0, none⟩ (.slice none 0 0))) p [] true F' ∧ Chg [p] w ((w.setCell ⟨p, 1, none⟩ (.bool true)).setCell ⟨p, 0, none⟩ (.slice none 0 0)) := by
      refine ⟨[p], ⟨none, 0, 0, rfl, ?_, RdB.nil _ _, Nat.le_refl _, fun _ => rfl, (fun _ _ _ h => by cases h), rfl⟩, ?_, ?_, ⟨none, 0, 0, rfl, ?_, RdB.nil _ _, Nat.le_refl _, fun _ => rfl, (fun _ _ _ h => by cases h), rfl⟩, ?_⟩
      · have := block_setCell (j := 1) (block_setCell (j := 0) H1.out (.slice none 0 0)) (.bool true)
        simpa using this
      · exact ((Chg.refl [p] w).setCell (.inl (by simp)) _).setCell (.inl (by simp)) _
      · intro q hq; simp at hq; rw [hq]; exact HPF.out
      · have := block_setCell (j := 0) (block_setCell (j := 1) H1.out (.bool true)) (.slice none 0 0)
        simpa using this
      · exact ((Chg.refl [p] w).setCell (.inl (by simp)) _).setCell (.inl (by simp)) _
    have FIN := hid fin; clear fin
    cases lack
    · by_cases hz : z < 0
      · have hb1 : decide (z < 0) = true := by simpa using hz
        clear hbad
        go_enter Try.func69, Try.ntmps69
        go_wp2_with fail
        go_ret
        rw [HT.out.1, HT.out.2.1, HT.out.2.2]
        obtain ⟨F', k1, k2, k3, k4, k5⟩ := FIN.out
        first | exact ⟨none, 0, 0, rfl, World.ownsRow_nil _ _ _ _, k2, F', k1, k3⟩ | exact ⟨none, 0, 0, rfl, World.ownsRow_nil _ _ _ _, k5, F', k4, k3⟩
      · have hz2' : (n : Int) < z := by simpa [hz] using hbad
        clear hbad
        go_enter Try.func69, Try.ntmps69
        go_wp2_with fail
        go_ret
        rw [HT.out.1, HT.out.2.1, HT.out.2.2]
        obtain ⟨F', k1, k2, k3, k4, k5⟩ := FIN.out
        first | exact ⟨none, 0, 0, rfl, World.ownsRow_nil _ _ _ _, k2, F', k1, k3⟩ | exact ⟨none, 0, 0, rfl, World.ownsRow_nil _ _ _ _, k5, F', k4, k3⟩
    · clear hbad
      go_enter Try.func69, Try.ntmps69
      go_wp2_with fail
      go_ret
      rw [HT.out.1, HT.out.2.1, HT.out.2.2]
      obtain ⟨F', k1, k2, k3, k4, k5⟩ := FIN.out
      first | exact ⟨none, 0, 0, rfl, World.ownsRow_nil _ _ _ _, k2, F', k1, k3⟩ | exact ⟨none, 0, 0, rfl, World.ownsRow_nil _ _ _ _, k5, F', k4, k3⟩
  · obtain ⟨hl, hz0', hz1'⟩ : lack = false ∧ 0 ≤ z ∧ z ≤ (n : Int) := by
      refine ⟨by cases lack <;> simp_all, ?_, ?_⟩ <;> omega
    clear hbad
    subst hl
    obtain ⟨k, rfl⟩ := Int.eq_ofNat_of_zero_le hz0'
    have hk : k ≤ n := by omega
    have HT : Hid (taken l false (k : Int) = l.take k ∧ restOf l false (k : Int) = l.drop k ∧ lackOf l false (k : Int) = false) := taken_good (by rw [HL.out]; exact hk)
    obtain ⟨a2, ha2⟩ : ∃ a2, (if c = k then a else a.map (·.add (k * 1))) = a2 := ⟨_, rfl⟩
    have HA2 := hid (drop_facts HR.out hk hnc HNN.out ha2)
    have hsl1 := fun w => run_slice_front (P := Try.prog) 24 5 1 Try.underlying24 (fun w => by kernel_rfl) a n c k (by omega) w
    have hsl2 := fun w => run_slice_back (P := Try.prog) 24 5 1 Try.underlying24 (fun w => by kernel_rfl) a n c k hk w
    rw [ha2] at hsl2
    clear ha2
    go_enter Try.func69, Try.ntmps69
    go_wp2_with (at_builtin; refine wpList_append_bytes rfl _ _ 24 rfl w.heap.size 5 i _ Try.underlying24 hi hz0 hz1 hz2 rfl _ 0 [] rfl (World.ownsRow_made w #[] 0 (Nat.le_refl _) (by unfold maxLen; omega) rfl) _ _ _ (l.take k) rfl ((HR.out.take hk).below (Below.alloc (Below.refl _ _) (Nat.le_refl _) _)) HNN.out (by omega) (by simp) ?_; intro a' c' w1 hown hg; have hw1 := ((Below.refl w.heap.size w).alloc (Nat.le_refl _) _).grown hg (by simp) (by intro q hq; cases hq; exact Nat.le_refl _); have hcell0' := (hw1.cell (p := ⟨p, 0, none⟩) hp).trans hcell0; have hfz0' := (hw1.frozen (p := ⟨p, 0, none⟩) hp).trans hfz0; have HO := hid hown; have HW := hid hw1; clear hown hw1 hg)
    go_ret
    rw [HT.out.1, HT.out.2.1, HT.out.2.2]
    have hblk1 := (HW.out.block p hp).trans H1.out
    obtain ⟨g1, g2, g3, g4⟩ := HA2.out
    refine ⟨_, _, _, rfl, ?_, ?_, F, ⟨a2, n - k, c - k, by rw [List.length_drop, HL.out], ?_, ?_, by omega, g2, ?_, ?_⟩, fun q hq => hq⟩
    · have ho := HO.out
      simp only [List.nil_append, Nat.zero_add] at ho
      refine (Chg.setCell (Chg.refl [p] _) (.inl (by simp)) _).owns ho ?_
      intro q hq hm
      have := (ho.lt q hq).1
      simp at hm; omega
    · exact ((Chg.of_below HW.out [p]).setCell (.inl (by simp)) _)
    · have := block_setCell (j := 0) hblk1 (.slice a2 (n - k) (c - k))
      simpa using this
    · refine (Chg.setCell (Chg.refl [p] _) (.inl (by simp)) _).rdB (g1.below HW.out) ?_
      intro b off sp hb hm
      obtain ⟨off', sp', h'⟩ := g3 b off sp hb
      exact (HBK.out b off' sp' h').1 (by simpa using hm)
    · intro b off sp hb
      obtain ⟨off', sp', h'⟩ := g3 b off sp hb
      exact ⟨(HBK.out b off' sp' h').1, by have h1 := (HBK.out b off' sp' h').2; have h2 := HW.out.size; simp [World.setCell]; omega⟩
    · rw [HFF.out, g4]
theorem rget_any (p n : Nat) (l : List UInt8) (lack : Bool) (F : List Nat) (w : World) (h : Rr 79 w p l lack F) (hlen : l.length ≤ 140737488355328) :
    Calls Try.prog 68 #[.pointer (some ⟨p, 0, none⟩), .int .i64 n] w fun e w' => e = .returned (.int .u64 ((num (taken l lack n) : Nat) : Int)) ∧ Chg [p] w w' ∧
      ∃ F', Rr 79 w' p (restOf l lack n) (lackOf l lack n) F' ∧ (∀ q ∈ F', q ∈ F) := by
  have H := hid h; clear h
  go_enter Try.func68, Try.ntmps68
  go_wp2_with fail
  refine (rTake_any p l lack F n _ H.out hlen).mono ?_
  rintro e w1 ⟨a, m, c, rfl, ho, hc, hx⟩
  have HR := hid (RdB.of_own ho); have HC := hid hc; have HX := hid hx
  have hm : m ≤ 140737488355328 := by
    have h1 := (RdB.of_own ho).len
    have h2 : (taken l lack (n : Int)).length ≤ l.length := by unfold taken; split <;> simp; omega
    omega
  clear ho hc hx
  have HL := hid HR.out.len
  generalize hout : taken l lack (n : Int) = out at *
  have HOUT := hid hout; clear hout
  go_wp2_with fail
  go_loop [6, 7] (fun x i => ∃ k : Nat, k ≤ m ∧ i = .int .i64 k ∧ x = .int .u64 ((num (out.take k) : Nat) : Int)) (fun _ i => m - (intOf i).toNat)
  case atStart => exact ⟨0, Nat.zero_le _, rfl, rfl⟩
  case round =>
    obtain ⟨k, hk, rfl, rfl⟩ := hrel
    by_cases hlt : k < m
    · obtain ⟨b, off, rfl, hcc⟩ := HR.out.cell k hlt
      have hcell : w1.cell? ⟨b, off + k, none⟩ = some (.int .u8 ((out.getD k 0).toNat : Int)) := hcc k hlt
      clear hcc
      have hbyte := (out.getD k 0).toNat_lt
      have HT : Hid (num (out.take (k + 1)) = (num (out.take k) * 256 + (out.getD k 0).toNat) % 18446744073709551616) := by
        show _ = _
        rw [take_snoc' out k (by rw [HL.out]; exact hlt), num_snoc]
      generalize out.getD k 0 = x at *
      generalize num (out.take k) = V at *
      have HW := hid (mul_byte V x)
      go_wp2
      go_round
      case rel =>
        first
          | exact ⟨k + 1, by omega, by go_num, by rw [HW.out, HT.out]⟩
          | exact ⟨_, ⟨k + 1, by omega, by go_num, by rw [HW.out, HT.out]⟩, rfl⟩
          | exact ⟨_, _, ⟨k + 1, by omega, by go_num, by rw [HW.out, HT.out]⟩, rfl, rfl⟩
      case measure => simp [intOf]; omega
    · obtain rfl : k = m := by omega
      have HT : Hid (out.take k = out) := by show _ = _; rw [← HL.out, List.take_length]
      go_wp2
      go_ret
      refine ⟨by rw [HT.out, HOUT.out]; rfl, HC.out, HX.out⟩
theorem rRU8_any (p : Nat) (l : List UInt8) (lack : Bool) (F : List Nat) (w : World) (h : Rr 79 w p l lack F) (hlen : l.length ≤ 140737488355328) :
    Calls Try.prog 49 #[.pointer (some ⟨p, 0, none⟩)] w fun e w' => e = .returned (.int .i64 (asInt (num (taken l lack 1)))) ∧ Chg [p] w w' ∧
      ∃ F', Rr 79 w' p (restOf l lack 1) (lackOf l lack 1) F' ∧ (∀ q ∈ F', q ∈ F) := by
  have H := hid h; clear h
  go_enter Try.func49, Try.ntmps49
  go_wp2_with fail
  refine (rget_any p 1 l lack F _ H.out hlen).mono ?_
  rintro e w1 ⟨rfl, h2, h3⟩
  have hnl := num_lt (taken l lack ((1 : Nat) : Int))
  have H2 := hid h2; have H3 := hid h3; clear h2 h3
  generalize hN : num (taken l lack ((1 : Nat) : Int)) = N at *
  have HN := hid hN; clear hN
  go_wp2_with fail
  go_ret
  have h2 := H2.out; have h3 := H3.out
  have hN := HN.out
  show _ = Ending.returned (_) ∧ _
  refine ⟨?_, h2, h3⟩
  have e : num (taken l lack 1) = N := hN
  rw [e]
  exact i64_ret' (asInt_eq N)
theorem rRU16_any (p : Nat) (l : List UInt8) (lack : Bool) (F : List Nat) (w : World) (h : Rr 79 w p l lack F) (hlen : l.length ≤ 140737488355328) :
    Calls Try.prog 47 #[.pointer (some ⟨p, 0, none⟩)] w fun e w' => e = .returned (.int .i64 (asInt (num (taken l lack 2)))) ∧ Chg [p] w w' ∧
      ∃ F', Rr 79 w' p (restOf l lack 2) (lackOf l lack 2) F' ∧ (∀ q ∈ F', q ∈ F) := by
  have H := hid h; clear h
  go_enter Try.func47, Try.ntmps47
  go_wp2_with fail
  refine (rget_any p 2 l lack F _ H.out hlen).mono ?_
  rintro e w1 ⟨rfl, h2, h3⟩
  have hnl := num_lt (taken l lack ((2 : Nat) : Int))
  have H2 := hid h2; have H3 := hid h3; clear h2 h3
  generalize hN : num (taken l lack ((2 : Nat) : Int)) = N at *
  have HN := hid hN; clear hN
  go_wp2_with fail
  go_ret
  have h2 := H2.out; have h3 := H3.out
  have hN := HN.out
  show _ = Ending.returned (_) ∧ _
  refine ⟨?_, h2, h3⟩
  have e : num (taken l lack 2) = N := hN
  rw [e]
  exact i64_ret' (asInt_eq N)
theorem rRShort_any (p : Nat) (l : List UInt8) (lack : Bool) (F : List Nat) (w : World) (h : Rr 79 w p l lack F) (hlen : l.length ≤ 140737488355328) :
    Calls Try.prog 48 #[.pointer (some ⟨p, 0, none⟩)] w fun e w' => ∃ a' n' c', e = .returned (.slice a' n' c') ∧ w'.ownsRow w.heap.size 5 1 (.slice a' n' c') n' ((shortOf l lack).map B8) ∧ Chg [p] w w' ∧
      ∃ F', Rr 79 w' p (shortRest l lack) (shortLack l lack) F' ∧ (∀ q ∈ F', q ∈ F) := by
  have H := hid h; clear h
  go_enter Try.func48, Try.ntmps48
  go_wp2_with fail
  refine (rRU16_any p l lack F _ H.out hlen).mono ?_
  rintro e w1 ⟨rfl, h2, F1, h3, h4⟩
  have H2 := hid h2; have H3 := hid h3; have H4 := hid h4; clear h2 h3 h4
  go_wp2_with fail
  refine (rTake_any p _ _ F1 _ _ H3.out (by have := rest_len l lack 2; omega)).mono ?_
  rintro e w2 ⟨a, m, c, rfl, ho, hc, F2, h5, h6⟩
  have HO := hid ho; have HC := hid hc; have H5 := hid h5; have H6 := hid h6; clear ho hc h5 h6
  go_wp2_with fail
  go_ret
  exact ⟨_, _, _, rfl, ownsRow_base HO.out (fun k hk => Nat.le_trans H2.out.size (HO.out.lt k hk).1), H2.out.trans HC.out (fun q hq => .inl hq), F2, H5.out, fun q hq => H4.out q (H6.out q hq)⟩
end Go.Proofs.Ytipkeifpkemcdaa
