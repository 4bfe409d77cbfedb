/- disk: Flush. -/
import Derived.Test.YtipkeifpkemcdaaDisk3
namespace Go.Proofs.Ytipkeifpkemcdaa
open Go.RowKit
set_option linter.unusedVariables false
set_option linter.unusedSimpArgs false
set_option maxRecDepth 100000
set_option maxHeartbeats 1000000

/-- A sector that is set. -/
theorem DkAt.setSec {w : World} {p S nS cS nQ cQ : Nat} {aQ : Option Addr} {xs qs : List (Value × Value)} {D : List Nat} {s : DSt} (h : DkAt w p S nS cS aQ nQ cQ xs qs D s) (i : Nat) (v : Value) (d : List UInt8) (b : Bool) (hv : Dat w D v d) :
    DkAt ((w.setCell ⟨S, i * 2, none⟩ v).setCell ⟨S, i * 2 + 1, none⟩ (.bool b)) p S nS cS aQ nQ cQ (xs.set i (v, .bool b)) qs D { s with sec := s.sec.set i (d, b) } ∧ Chg [S] w ((w.setCell ⟨S, i * 2, none⟩ v).setCell ⟨S, i * 2 + 1, none⟩ (.bool b)) := by
  have hc : Chg [S] w ((w.setCell ⟨S, i * 2, none⟩ v).setCell ⟨S, i * 2 + 1, none⟩ (.bool b)) := ((Chg.refl [S] w).setCell (.inl (by simp)) _).setCell (.inl (by simp)) _
  have hD : Disj D [S] := fun q hq hm => (h.dd q hq).2.1 (List.mem_singleton.1 hm)
  refine ⟨⟨by simp [h.lenS], h.lenQ, ?_, ?_, hc.owns h.rowQ ?_, ?_, h.pens.mono ?_, h.pS, h.qne, ?_, h.fuse, h.small⟩, hc⟩
  · rw [hc.block p (block_lt h.blk) (by simpa using h.pS)]; exact h.blk
  · have h1 := (h.rowS.stored (i * 2) v).1
    have h2 := (h1.stored (i * 2 + 1) (.bool b)).1
    rw [pairs_set xs (v, .bool b) i] at h2
    exact h2
  · intro q hq hm; exact (h.qne q hq).2 (List.mem_singleton.1 hm)
  · exact (h.secs.mono fun x y _ _ hx => ⟨hx.1.keep hc hD, hx.2⟩).set ⟨hv.keep hc hD, rfl⟩ i
  · intro x y _ _ hx; exact ⟨hx.1, hx.2.1, hx.2.2.keep hc hD⟩
  · intro q hq; obtain ⟨a, b, c, e⟩ := h.dd q hq; exact ⟨a, b, c, Nat.lt_of_lt_of_le e hc.size⟩
theorem done_snoc (sec : List (List UInt8 × Bool)) (l : List (Nat × List UInt8)) (x : Nat × List UInt8) : done sec (l ++ [x]) = (done sec l).set x.1 (x.2, false) := by simp [done]
theorem done_nil (sec : List (List UInt8 × Bool)) : done sec [] = sec := rfl
/-- Nothing pends any more. -/
theorem DkAt.unpend {w : World} {p S nS cS nQ cQ : Nat} {aQ : Option Addr} {xs qs : List (Value × Value)} {D : List Nat} {s : DSt} (h : DkAt w p S nS cS aQ nQ cQ xs qs D s) :
    DkAt (w.setCell ⟨p, 1, none⟩ (.slice none 0 0)) p S nS cS none 0 0 xs [] D { s with pend := [] } ∧ Chg [p] w (w.setCell ⟨p, 1, none⟩ (.slice none 0 0)) := by
  have hc : Chg [p] w (w.setCell ⟨p, 1, none⟩ (.slice none 0 0)) := (Chg.refl [p] w).setCell (.inl (by simp)) _
  have hD : Disj D [p] := fun q hq hm => (h.dd q hq).1 (List.mem_singleton.1 hm)
  refine ⟨⟨h.lenS, rfl, ?_, hc.owns h.rowS ?_, World.ownsRow_nil _ _ _ _, h.secs.mono ?_, All2.nil, h.pS, ?_, ?_, h.fuse, h.small⟩, hc⟩
  · have := block_setCell (j := 1) h.blk (.slice none 0 0)
    simpa using this
  · intro q hq hm; cases hq; exact h.pS (List.mem_singleton.1 hm).symm
  · intro x y _ _ hx; exact ⟨hx.1.keep hc hD, hx.2⟩
  · intro g hg; cases hg
  · intro q hq
    obtain ⟨a, b, c, e⟩ := h.dd q hq
    exact ⟨a, b, (fun g hg => by cases hg), Nat.lt_of_lt_of_le e hc.size⟩

theorem flush_cannot (p : Nat) (s : DSt) (F : List Nat) (w : World) (h : Dk w p s F) (hc : s.can = false) :
    Calls Try.prog 99 #[.pointer (some ⟨p, 0, none⟩)] w fun e w' => e = .returned (.int .i64 9) ∧ Chg F w w' ∧ ∃ F', Dk w' p s.flush F' ∧ Fresh F F' w := by
  have H := hid h; have HC := hid hc; clear h hc
  go_enter Try.func99, Try.ntmps99
  go_wp2_with fail
  refine (work_cannot p s F _ H.out HC.out).mono ?_
  rintro e w1 ⟨rfl, hd1, hc1⟩
  have HD1 := hid hd1; have HC1 := hid hc1; clear hd1 hc1
  go_wp2_with fail
  go_ret
  refine ⟨rfl, HC1.out, F, ?_, fun q hq => .inl hq⟩
  unfold DSt.flush
  rw [if_neg (by simp [HC.out])]
  exact HD1.out

theorem flush_can (p : Nat) (s : DSt) (F : List Nat) (w : World) (h : Dk w p s F) (hc : s.can = true) (hw : s.works < 4611686018427387904) :
    Calls Try.prog 99 #[.pointer (some ⟨p, 0, none⟩)] w fun e w' => e = .returned (.int .i64 0) ∧ Chg F w w' ∧ ∃ F', Dk w' p s.flush F' ∧ Fresh F F' w := by
  have hfl : s.flush = { s.work with sec := done s.work.sec s.work.pend, pend := [] } := by
    have hs : s.work.sec = s.sec ∧ s.work.pend = s.pend := by unfold DSt.work; split <;> exact ⟨rfl, rfl⟩
    unfold DSt.flush
    rw [if_pos hc, hs.1, hs.2]
  rw [hfl]
  clear hfl
  have hwk := work_can p s F w h hc hw
  generalize s.work = t at *
  have HWK := hid hwk
  clear h hc hwk
  go_enter Try.func99, Try.ntmps99
  go_wp2_with fail
  refine HWK.out.mono ?_
  rintro e w1 ⟨rfl, hd1, hc1⟩
  obtain ⟨S, nS, cS, aQ, nQ, cQ, xs, qs, D, hd, hF⟩ := hd1
  have hp1 := hd.cell1
  have hqm := hd.qmax
  have HD := hid hd; have HF := hid hF; have HC1 := hid hc1
  clear hd hF hc1
  go_wp2_with fail
  go_loopw [16] (fun x wr => ∃ (k : Nat) (xs' : List (Value × Value)), k ≤ nQ ∧ x = .int .i64 k ∧ DkAt wr p S nS cS aQ nQ cQ xs' qs D { t with sec := done t.sec (t.pend.take k) } ∧ Chg [S] w1 wr) (fun x _ => nQ - (intOf x).toNat)
  case atStart => exact ⟨0, xs, Nat.zero_le _, rfl, by simpa [done_nil] using HD.out, Chg.refl _ _⟩
  case round =>
    obtain ⟨k, xs', hk, rfl, hd, hc⟩ := hrel
    by_cases hlt : k < nQ
    · obtain ⟨g, z, v, d, rfl, e1, e2, hz, e3, e4, hdat⟩ := hd.pen (i := k) hlt
      obtain ⟨a, n, c, rfl⟩ : ∃ a n c, v = .slice a n c := let ⟨a, n, c, e, _⟩ := hdat; ⟨a, n, c, e⟩
      have hd' := fun o => hd.keep (Chg.alloc (Chg.refl [] wr) o) (fun _ _ hm => by cases hm)
      have c0 := fun o => (hd' o).cell0
      obtain ⟨v0, d0, b0, e5, e6, e7, _⟩ := hd.sec hz
      have e6' := fun o => cell_alloc e6 o
      have e7' := fun o => cell_alloc e7 o
      have f6 := fun o => (hd' o).rowS.frozenAt (z * 2)
      have f7 := fun o => (hd' o).rowS.frozenAt (z * 2 + 1)
      have e1' : t.pend[k]? = some (z, d) := e1
      have HS := hid (fun o => (hd' o).setSec z (.slice a n c) d false (hdat.keep (Chg.alloc (Chg.refl [] wr) o) (fun _ _ hm => by cases hm)))
      have HC := hid hc; have HE := hid e1'
      clear e1 e1' e2 hdat e5 hd hc hd'
      go_wp2_with fail
      go_region
      go_wp2_with fail
      go_roundw
      case rel =>
        obtain ⟨h1, h2⟩ := HS.out (.cells #[.int .i64 (z : Int), .slice a n c] 99 (0, 0))
        have h3 : done t.sec (t.pend.take (k + 1)) = (done t.sec (t.pend.take k)).set z (d, false) := by
          rw [take_snoc HE.out, done_snoc]
        refine ⟨k + 1, xs'.set z (.slice a n c, .bool false), by omega, by go_num, ?_, ((HC.out.alloc _).trans h2 (fun q hq => .inl hq)).drew⟩
        rw [h3]
        exact h1.keep (Chg.drew (Chg.refl [] _)) (fun _ _ hm => by cases hm)
      case measure => simp [intOf]; omega
    · obtain rfl : k = nQ := by omega
      have c1 := hd.cell1
      have f1 := hd.fz 1
      have HS := hid hd.unpend
      have HLP := hid hd.lenPend
      have HC := hid hc
      clear hd hc
      go_wp2_with fail
      go_ret
      obtain ⟨h1, h2⟩ := HS.out
      have h3 : (t.pend.take k) = t.pend := List.take_of_length_le (by have h5 : t.pend.length = k := HLP.out; omega)
      rw [h3] at h1
      have h4 : Chg [S, p] w1 _ := (HC.out.mono (G := [S, p]) (by simp)).trans (h2.mono (G := [S, p]) (by simp)) (fun q hq => .inl hq)
      have hFF := HF.out
      refine ⟨rfl, HC1.out.trans (h4.mono (G := F) ?_) (fun q hq => .inl hq), _, ⟨S, nS, cS, none, 0, 0, xs', [], D, h1, rfl⟩, ?_⟩
      · rw [hFF]; simp [foot]
      · intro q hq
        left
        rw [hFF]
        simp only [foot, Value.ownBlock, Option.toList, List.mem_cons, List.mem_append, List.nil_append] at hq ⊢
        rcases hq with h | h | h
        · exact .inl h
        · exact .inr (.inl h)
        · exact .inr (.inr (.inr h))
end Go.Proofs.Ytipkeifpkemcdaa
