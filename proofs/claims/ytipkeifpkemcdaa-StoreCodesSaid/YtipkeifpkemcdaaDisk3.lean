/- disk: Write that is refused or falls, Read. -/
import Derived.Test.YtipkeifpkemcdaaDisk2
import Derived.Test.YtipkeifpkemcdaaHand
namespace Go.Proofs.Ytipkeifpkemcdaa
open Go.RowKit
set_option linter.unusedVariables false
set_option linter.unusedSimpArgs false
set_option maxRecDepth 100000
set_option maxHeartbeats 1000000

/-- Write that is refused. -/
theorem write_bad (p : Nat) (z : Int) (s : DSt) (F : List Nat) (a : Option Addr) (n c : Nat) (w : World) (h : Dk w p s F)
    (hz : z < 0 ∨ (s.sec.length : Int) ≤ z ∨ n ≠ 64) (hz1 : -9223372036854775808 ≤ z ∧ z ≤ 9223372036854775807) :
    Calls Try.prog 102 #[.pointer (some ⟨p, 0, none⟩), .int .i64 z, .slice a n c] w fun e w' => e = .returned (.int .i64 1) ∧ w = w' := by
  obtain ⟨S, nS, cS, aQ, nQ, cQ, xs, qs, D, hd, hF⟩ := h
  have h0 := hd.cell0
  rw [hd.lenSec] at hz
  clear hd hF
  by_cases h1 : z < 0
  · go_enter Try.func102, Try.ntmps102
    go_wp2_with fail
    all_goals (go_ret; exact ⟨rfl, rfl⟩)
  · obtain ⟨k, rfl⟩ : ∃ k : Nat, z = (k : Int) := ⟨z.toNat, by omega⟩
    clear h1 hz1
    by_cases h2 : nS ≤ k
    · go_enter Try.func102, Try.ntmps102
      go_wp2_with fail
      all_goals (go_ret; exact ⟨rfl, rfl⟩)
    · have h3 : n ≠ 64 := by omega
      have h4 : ((n : Int) != 64) = true := by simp; omega
      have h5 : k < nS := by omega
      clear hz h2
      go_enter Try.func102, Try.ntmps102
      go_wp2_with fail
      all_goals (go_ret; exact ⟨rfl, rfl⟩)

/-- Write at which it falls, or is down. -/
theorem write_cannot (p at_ : Nat) (s : DSt) (F : List Nat) (a : Option Addr) (c : Nat) (d : List UInt8) (w : World) (h : Dk w p s F)
    (hat : at_ < s.sec.length) (hc : s.can = false) :
    Calls Try.prog 102 #[.pointer (some ⟨p, 0, none⟩), .int .i64 at_, .slice a 64 c] w fun e w' => e = .returned (.int .i64 9) ∧ Chg F w w' ∧ ∃ F', Dk w' p (s.write at_ d) F' ∧ Fresh F F' w := by
  have H := hid h
  obtain ⟨S, nS, cS, aQ, nQ, cQ, xs, qs, D, hd, hF⟩ := h
  have h0 := hd.cell0
  have hlen := hd.lenSec
  have hatn : at_ < nS := by omega
  have HC := hid hc
  clear hd hF hlen hat hc
  go_enter Try.func102, Try.ntmps102
  go_wp2_with fail
  refine (work_cannot p s F _ H.out HC.out).mono ?_
  rintro e w1 ⟨rfl, hd1, hc1⟩
  have HD1 := hid hd1; have HC1 := hid hc1; clear hd1 hc1
  go_wp2_with fail
  go_ret
  refine ⟨rfl, HC1.out, F, ?_, fun q hq => .inl hq⟩
  unfold DSt.write
  rw [if_neg (by simp [HC.out])]
  exact HD1.out

/-- Write of a sector's length in its bounds. -/
theorem write_any (p at_ : Nat) (s : DSt) (F : List Nat) (a : Option Addr) (c : Nat) (d : List UInt8) (w : World) (h : Dk w p s F) (hr : RdB w a 64 d) (hcn : a = none → c = 0) (hrF : ∀ w1, Chg F w w1 → RdB w1 a 64 d)
    (hat : at_ < s.sec.length) (hw : s.works < 4611686018427387904) (hpn : s.pend.length < 1099511627776) :
    Calls Try.prog 102 #[.pointer (some ⟨p, 0, none⟩), .int .i64 at_, .slice a 64 c] w fun e w' => e = .returned (.int .i64 (if s.can then 0 else 9)) ∧ Chg F w w' ∧ ∃ F', Dk w' p (s.write at_ d) F' ∧ Fresh F F' w := by
  by_cases hc : s.can = true
  · rw [if_pos hc]; exact write_can p at_ s F a c d w h hr hcn hrF hat hc hw hpn
  · rw [if_neg hc]; exact write_cannot p at_ s F a c d w h hat (by simpa using hc)

/-- the two cells of what pends i-th -/
theorem DkAt.pen {w : World} {p S nS cS nQ cQ : Nat} {aQ : Option Addr} {xs qs : List (Value × Value)} {D : List Nat} {s : DSt} (h : DkAt w p S nS cS aQ nQ cQ xs qs D s) {i : Nat} (hi : i < nQ) :
    ∃ g at_ v d, aQ = some ⟨g, 0, none⟩ ∧ s.pend[i]? = some (at_, d) ∧ qs[i]? = some (.int .i64 (at_ : Int), v) ∧ at_ < nS ∧ w.cell? ⟨g, i * 2, none⟩ = some (.int .i64 (at_ : Int)) ∧ w.cell? ⟨g, i * 2 + 1, none⟩ = some v ∧ Dat w D v d := by
  have hl : i < s.pend.length := by rw [h.lenPend]; exact hi
  obtain ⟨x, hx, h1, h2, h3⟩ := h.pens.get (List.getElem?_eq_getElem hl)
  obtain ⟨g, rfl, _, _⟩ := (own_slice h.rowQ).2.2 (by omega)
  obtain ⟨x1, x2⟩ := x
  simp only at h1 h2 h3
  subst h1
  refine ⟨g, _, _, _, rfl, List.getElem?_eq_getElem hl, hx, h2, ?_, ?_, h3⟩
  · rw [h.rowQ.cellAt (i * 2) (by omega), pairs_get0, hx]; rfl
  · rw [h.rowQ.cellAt (i * 2 + 1) (by omega), pairs_get1, hx]; rfl
theorem lastOf_nil (z : Nat) : lastOf [] z = none := rfl
theorem lastOf_snoc (l : List (Nat × List UInt8)) (x : Nat × List UInt8) (z : Nat) : lastOf (l ++ [x]) z = if x.1 = z then some x.2 else lastOf l z := by
  unfold lastOf
  rw [List.reverse_append]
  simp only [List.reverse_cons, List.reverse_nil, List.nil_append, List.cons_append, List.find?_cons]
  by_cases h : x.1 = z
  · simp [h]
  · have : (x.1 == z) = false := by simpa using h
    simp [this, h]
theorem take_snoc {α : Type} {l : List α} {i : Nat} {x : α} (h : l[i]? = some x) : l.take (i + 1) = l.take i ++ [x] := by
  rw [List.take_add_one, h]; rfl

theorem DkAt.qmax {w : World} {p S nS cS nQ cQ : Nat} {aQ : Option Addr} {xs qs : List (Value × Value)} {D : List Nat} {s : DSt} (h : DkAt w p S nS cS aQ nQ cQ xs qs D s) : nQ ≤ 9223372036854775807 := by
  rcases h.rowQ.2 with ⟨hv, h0⟩ | ⟨g, cap, cur, hv, hbg, hg, hnc, hcm, hcs, htake⟩
  · omega
  · unfold maxLen at hcm; omega

theorem own_at {w : World} {base : Nat} {e : TypeId} {size : Nat} {a : Option Addr} {n c : Nat} {xs : List Value} (h : w.ownsRow base e size (.slice a n c) n xs) : ∀ b off sp, a = some ⟨b, off, sp⟩ → base ≤ b ∧ b < w.heap.size := by
  intro b off sp hb
  rcases h.2 with ⟨hv, h0⟩ | ⟨g, cap, cur, hv, hg, hh, _⟩
  · simp only [Value.slice.injEq] at hv
    rw [hb] at hv; cases hv.1
  · simp only [Value.slice.injEq] at hv
    rw [hb] at hv
    cases hv.1
    exact ⟨hg, (Array.getElem?_eq_some_iff.1 hh).1⟩
/-- Read outside of the bounds. -/
theorem read_neg (p : Nat) (s : DSt) (F : List Nat) (z : Int) (w : World) (h : Dk w p s F) (hz : z < 0) :
    Calls Try.prog 81 #[.pointer (some ⟨p, 0, none⟩), .int .i64 z] w fun e w' => e = .returned (.tuple #[.slice none 0 0, .int .i64 1]) ∧ w = w' := by
  obtain ⟨S, nS, cS, aQ, nQ, cQ, xs, qs, D, hd, hF⟩ := h
  have h0 := hd.cell0
  clear hd hF
  go_enter Try.func81, Try.ntmps81
  go_wp2_with fail
  all_goals (go_ret2; exact ⟨rfl, rfl⟩)

/-- Read in the bounds. -/
theorem read_any (p at_ : Nat) (s : DSt) (F : List Nat) (w : World) (h : Dk w p s F) (hat : at_ < s.sec.length) :
    Calls Try.prog 81 #[.pointer (some ⟨p, 0, none⟩), .int .i64 at_] w fun e w' => ∃ a' n c', e = .returned (.tuple #[.slice a' n c', .int .i64 (s.read at_).2]) ∧ RdB w' a' n (s.read at_).1 ∧ (a' = none → c' = 0) ∧ Below w.heap.size w w' ∧ ∀ b off sp, a' = some ⟨b, off, sp⟩ → w.heap.size ≤ b ∧ b < w'.heap.size := by
  obtain ⟨S, nS, cS, aQ, nQ, cQ, xs, qs, D, hd, hF⟩ := h
  have h0 := hd.cell0; have h1 := hd.cell1; have h3 := hd.cell3
  have hlen := hd.lenSec
  have hatn : at_ < nS := by omega
  have hq := hd.lenPend
  have hqm := hd.qmax
  have hr1 : s.read at_ = if s.down then (([] : List UInt8), (9 : Int)) else match lastOf s.pend at_ with
    | some d => (d, 0)
    | none => if (s.sec.getD at_ default).2 then ([], 8) else ((s.sec.getD at_ default).1, 0) := by
    unfold DSt.read
    rw [if_neg (by omega)]
    rfl
  generalize s.read at_ = rd at *
  have HD := hid hd; have HQ := hid hq
  clear hd hF hlen hat hq
  by_cases hdn : s.down = true
  · rw [hdn] at h3
    rw [if_pos hdn] at hr1
    subst hr1
    clear hdn
    go_enter Try.func81, Try.ntmps81
    go_wp2_with fail
    go_ret2
    exact ⟨_, _, _, rfl, RdB.nil _ _, fun _ => rfl, Below.refl _ _, fun b off sp h => by cases h⟩
  · rw [if_neg hdn] at hr1
    have hdn' : s.down = false := by simpa using hdn
    rw [hdn'] at h3
    have HR := hid hr1
    clear hdn hdn' hr1
    go_enter Try.func81, Try.ntmps81
    go_wp2_with fail
    go_loopw [6] (fun x wr => ∃ (k : Nat), k ≤ nQ ∧ x = .int .i64 ((k : Int) - 1) ∧ lastOf s.pend at_ = lastOf (s.pend.take k) at_ ∧ w = wr) (fun x _ => (intOf x + 1).toNat)
    case atStart => exact ⟨nQ, Nat.le_refl _, by go_num, by rw [List.take_of_length_le (by rw [HQ.out]; exact Nat.le_refl _)], rfl⟩
    case round =>
      obtain ⟨k, hk, rfl, hl, rfl⟩ := hrel
      have HL := hid hl; clear hl
      cases k with
      | zero =>
        obtain ⟨v, d, b, e1, e2, e3, hdat⟩ := HD.out.sec hatn
        have hrd : rd = if b then ([], 8) else (d, 0) := by
          rw [HR.out, HL.out]
          simp only [List.take_zero, lastOf_nil, List.getD_eq_getElem?_getD, e1, Option.getD_some]
        obtain ⟨a, n, c, rfl, hr, hnc, hn0, hn47, _⟩ := hdat
        have HRD := hid hr; have HN := hid hn0
        clear e1 hr hn0 HR
        cases b with
        | true =>
          simp only [if_true] at hrd
          subst hrd
          go_wp2_with fail
          go_ret2
          exact ⟨_, _, _, rfl, RdB.nil _ _, fun _ => rfl, Below.refl _ _, fun b off sp h => by cases h⟩
        | false =>
          simp only [Bool.false_eq_true, if_false] at hrd
          subst hrd
          go_wp2_with fail
          refine (clone_any a n c d _ HRD.out hn47 HN.out).mono ?_
          rintro e w1 ⟨a1, c1, rfl, ho, hb⟩
          have HO := hid ho; have HB := hid hb; clear ho hb
          go_wp2_with fail
          go_ret2
          exact ⟨_, _, _, rfl, RdB.of_own HO.out, (own_slice HO.out).2.1, HB.out, own_at HO.out⟩
      | succ k =>
        obtain ⟨g, z, v, d, rfl, e1, e2, hz, e3, e4, hdat⟩ := HD.out.pen (i := k) (by omega)
        have hls : lastOf (s.pend.take (k + 1)) at_ = if z = at_ then some d else lastOf (s.pend.take k) at_ := by
          rw [take_snoc e1, lastOf_snoc]
        obtain ⟨a, n, c, rfl, hr, hnc, hn0, hn47, _⟩ := hdat
        have HRD := hid hr; have HN := hid hn0
        clear e1 e2 hr hn0
        by_cases hzz : z = at_
        · subst hzz
          rw [if_pos rfl] at hls
          have hrd : rd = (d, 0) := by rw [HR.out, HL.out, hls]
          subst hrd
          clear hls
          go_wp2_with fail
          refine (clone_any a n c d _ HRD.out hn47 HN.out).mono ?_
          rintro e w1 ⟨a1, c1, rfl, ho, hb⟩
          have HO := hid ho; have HB := hid hb; clear ho hb
          go_wp2_with fail
          go_ret2
          exact ⟨_, _, _, rfl, RdB.of_own HO.out, (own_slice HO.out).2.1, HB.out, own_at HO.out⟩
        · have hb : ((z : Int) == (at_ : Int)) = false := by simp; omega
          rw [if_neg hzz] at hls
          have HLS := hid hls; clear hls
          go_wp2_with fail
          go_roundw
          case rel => exact ⟨k, by omega, by go_num, by rw [HL.out, HLS.out], trivial⟩
          case measure => simp [intOf]
end Go.Proofs.Ytipkeifpkemcdaa
