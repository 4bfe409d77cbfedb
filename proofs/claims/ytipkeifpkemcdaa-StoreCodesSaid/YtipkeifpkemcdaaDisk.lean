/- disk: what each call does to a Disk. -/
import Derived.Test.YtipkeifpkemcdaaRows
import Derived.Test.YtipkeifpkemcdaaPairs
import Derived.Test.YtipkeifpkemcdaaDiskPlain
import Derived.WalkLawsBesides
namespace Go.Proofs.Ytipkeifpkemcdaa
open Go.RowKit
set_option linter.unusedVariables false
set_option linter.unusedSimpArgs false
set_option maxRecDepth 100000

theorem dInfoB : (Try.prog.info? 5).map (fun i => (i.zero, i.size, i.bytes)) = some (some (.int .u8 0), 1, 1) := by kernel_rfl
theorem dInfoS : (Try.prog.info? 87).map (fun i => (i.zero, i.size, i.bytes)) = some (some (.agg #[.slice none 0 0, .bool false]), 2, 32) := by kernel_rfl
theorem dInfoW : (Try.prog.info? 99).map (fun i => (i.zero, i.size, i.bytes)) = some (some (.agg #[.int .i64 0, .slice none 0 0]), 2, 32) := by kernel_rfl

/-- Bytes that lie in one of the blocks D and stay. -/
def Dat (w : World) (D : List Nat) (v : Value) (d : List UInt8) : Prop :=
  ∃ a n c, v = .slice a n c ∧ RdB w a n d ∧ n ≤ c ∧ (a = none → c = 0) ∧ n ≤ 140737488355328 ∧ ∀ b off sp, a = some ⟨b, off, sp⟩ → b ∈ D
theorem Dat.keep {w w' : World} {D G : List Nat} {v : Value} {d : List UInt8} (h : Dat w D v d) (hc : Chg G w w') (hd : Disj D G) : Dat w' D v d := by
  obtain ⟨a, n, c, h1, h2, h3, h4, h5, h6⟩ := h
  exact ⟨a, n, c, h1, hc.rdB h2 (fun b off sp hb => hd b (h6 b off sp hb)), h3, h4, h5, h6⟩
theorem Dat.more {w : World} {D D' : List Nat} {v : Value} {d : List UInt8} (h : Dat w D v d) (hs : ∀ k ∈ D, k ∈ D') : Dat w D' v d := by
  obtain ⟨a, n, c, h1, h2, h3, h4, h5, h6⟩ := h
  exact ⟨a, n, c, h1, h2, h3, h4, h5, fun b off sp hb => hs b (h6 b off sp hb)⟩
def SecR (w : World) (D : List Nat) (x : Value × Value) (y : List UInt8 × Bool) : Prop := Dat w D x.1 y.1 ∧ x.2 = .bool y.2
def PenR (w : World) (D : List Nat) (n : Nat) (x : Value × Value) (y : Nat × List UInt8) : Prop := x.1 = .int .i64 (y.1 : Int) ∧ y.1 < n ∧ Dat w D x.2 y.2

/-- The disk at block p: its sectors' row S, what pends, the data's blocks D. -/
structure DkAt (w : World) (p S nS cS : Nat) (aQ : Option Addr) (nQ cQ : Nat) (xs qs : List (Value × Value)) (D : List Nat) (s : DSt) : Prop where
  lenS : xs.length = nS
  lenQ : qs.length = nQ
  blk : w.heap[p]? = some (.cells #[.slice (some ⟨S, 0, none⟩) nS cS, .slice aQ nQ cQ, .int .i64 s.fuse, .bool s.down, .int .i64 (s.works : Int)] 85 (0, 0))
  rowS : w.ownsRow 0 87 2 (.slice (some ⟨S, 0, none⟩) nS cS) nS (pairs xs)
  rowQ : w.ownsRow 0 99 2 (.slice aQ nQ cQ) nQ (pairs qs)
  secs : All2 (SecR w D) xs s.sec
  pens : All2 (PenR w D nS) qs s.pend
  pS : p ≠ S
  qne : ∀ g, (Value.slice aQ nQ cQ).ownBlock = some g → g ≠ p ∧ g ≠ S
  dd : ∀ k ∈ D, k ≠ p ∧ k ≠ S ∧ (∀ g, (Value.slice aQ nQ cQ).ownBlock = some g → k ≠ g) ∧ k < w.heap.size
  fuse : -1 ≤ s.fuse ∧ s.fuse ≤ 9223372036854775807
  small : nS ≤ 4096
def foot (p S : Nat) (v : Value) (D : List Nat) : List Nat := p :: S :: (v.ownBlock.toList ++ D)
def Dk (w : World) (p : Nat) (s : DSt) (F : List Nat) : Prop :=
  ∃ S nS cS aQ nQ cQ xs qs D, DkAt w p S nS cS aQ nQ cQ xs qs D s ∧ F = foot p S (.slice aQ nQ cQ) D

section
variable {w w' : World} {p S nS cS nQ cQ : Nat} {aQ : Option Addr} {xs qs : List (Value × Value)} {D : List Nat} {s : DSt}
theorem DkAt.lenSec (h : DkAt w p S nS cS aQ nQ cQ xs qs D s) : s.sec.length = nS := h.secs.1.symm.trans h.lenS
theorem DkAt.lenPend (h : DkAt w p S nS cS aQ nQ cQ xs qs D s) : s.pend.length = nQ := h.pens.1.symm.trans h.lenQ
theorem DkAt.Slt (h : DkAt w p S nS cS aQ nQ cQ xs qs D s) : S < w.heap.size := (h.rowS.lt S rfl).2
theorem DkAt.lt (h : DkAt w p S nS cS aQ nQ cQ xs qs D s) : ∀ k ∈ foot p S (.slice aQ nQ cQ) D, k < w.heap.size := by
  intro k hk
  simp only [foot, List.mem_cons, List.mem_append] at hk
  rcases hk with rfl | rfl | hk | hk
  · exact block_lt h.blk
  · exact h.Slt
  · exact (h.rowQ.lt k (by simpa using hk)).2
  · exact (h.dd k hk).2.2.2
/-- Behind a change elsewhere. -/
theorem DkAt.keep {G : List Nat} (h : DkAt w p S nS cS aQ nQ cQ xs qs D s) (hc : Chg G w w') (hd : Disj (foot p S (.slice aQ nQ cQ) D) G) : DkAt w' p S nS cS aQ nQ cQ xs qs D s := by
  have hp : p ∉ G := hd p (by simp [foot])
  have hS : S ∉ G := hd S (by simp [foot])
  have hD : Disj D G := fun k hk => hd k (by simp [foot, hk])
  refine ⟨h.lenS, h.lenQ, ?_, hc.owns h.rowS ?_, hc.owns h.rowQ ?_, h.secs.mono ?_, h.pens.mono ?_, h.pS, h.qne, ?_, h.fuse, h.small⟩
  · rw [hc.block p (block_lt h.blk) hp]; exact h.blk
  · intro k hk; cases hk; exact hS
  · intro k hk; exact hd k (by simp [foot, hk])
  · intro x y _ _ hx; exact ⟨hx.1.keep hc hD, hx.2⟩
  · intro x y _ _ hx; exact ⟨hx.1, hx.2.1, hx.2.2.keep hc hD⟩
  · intro k hk; obtain ⟨a, b, c, d⟩ := h.dd k hk; exact ⟨a, b, c, Nat.lt_of_lt_of_le d hc.size⟩
/-- Behind stores into its own block. -/
theorem DkAt.struct (h : DkAt w p S nS cS aQ nQ cQ xs qs D s) (hc : Chg [p] w w') (f : Int) (d : Bool) (k : Nat) (hf : -1 ≤ f ∧ f ≤ 9223372036854775807)
    (hb : w'.heap[p]? = some (.cells #[.slice (some ⟨S, 0, none⟩) nS cS, .slice aQ nQ cQ, .int .i64 f, .bool d, .int .i64 (k : Int)] 85 (0, 0))) :
    DkAt w' p S nS cS aQ nQ cQ xs qs D { s with fuse := f, down := d, works := k } := by
  have hD : Disj D [p] := fun q hq hm => (h.dd q hq).1 (List.mem_singleton.1 hm)
  refine ⟨h.lenS, h.lenQ, hb, hc.owns h.rowS ?_, hc.owns h.rowQ ?_, h.secs.mono ?_, h.pens.mono ?_, h.pS, h.qne, ?_, hf, h.small⟩
  · intro q hq hm; cases hq; exact h.pS (List.mem_singleton.1 hm).symm
  · intro q hq hm; exact (h.qne q hq).1 (List.mem_singleton.1 hm)
  · intro x y _ _ hx; exact ⟨hx.1.keep hc hD, hx.2⟩
  · intro x y _ _ hx; exact ⟨hx.1, hx.2.1, hx.2.2.keep hc hD⟩
  · intro q hq; obtain ⟨a, b, c, e⟩ := h.dd q hq; exact ⟨a, b, c, Nat.lt_of_lt_of_le e hc.size⟩
theorem DkAt.cell0 (h : DkAt w p S nS cS aQ nQ cQ xs qs D s) : w.cell? ⟨p, 0, none⟩ = some (.slice (some ⟨S, 0, none⟩) nS cS) := cell_of_block h.blk rfl
theorem DkAt.cell1 (h : DkAt w p S nS cS aQ nQ cQ xs qs D s) : w.cell? ⟨p, 1, none⟩ = some (.slice aQ nQ cQ) := cell_of_block h.blk rfl
theorem DkAt.cell2 (h : DkAt w p S nS cS aQ nQ cQ xs qs D s) : w.cell? ⟨p, 2, none⟩ = some (.int .i64 s.fuse) := cell_of_block h.blk rfl
theorem DkAt.cell3 (h : DkAt w p S nS cS aQ nQ cQ xs qs D s) : w.cell? ⟨p, 3, none⟩ = some (.bool s.down) := cell_of_block h.blk rfl
theorem DkAt.cell4 (h : DkAt w p S nS cS aQ nQ cQ xs qs D s) : w.cell? ⟨p, 4, none⟩ = some (.int .i64 (s.works : Int)) := cell_of_block h.blk rfl
theorem DkAt.fz (h : DkAt w p S nS cS aQ nQ cQ xs qs D s) (j : Nat) : w.frozen? ⟨p, j, none⟩ = false := frozen_of_block h.blk
/-- the two cells of sector i -/
theorem DkAt.sec (h : DkAt w p S nS cS aQ nQ cQ xs qs D s) {i : Nat} (hi : i < nS) : ∃ v d b, s.sec[i]? = some (d, b) ∧ w.cell? ⟨S, i * 2, none⟩ = some v ∧ w.cell? ⟨S, i * 2 + 1, none⟩ = some (.bool b) ∧ Dat w D v d := by
  have hl : i < s.sec.length := by rw [h.lenSec]; exact hi
  obtain ⟨x, hx, h1, h2⟩ := h.secs.get (List.getElem?_eq_getElem hl)
  refine ⟨x.1, _, _, List.getElem?_eq_getElem hl, ?_, ?_, h1⟩
  · rw [h.rowS.cellAt (i * 2) (by omega), pairs_get0, hx]; rfl
  · rw [h.rowS.cellAt (i * 2 + 1) (by omega), pairs_get1, hx]; simp [h2]
end

/-- disk.clone -/
theorem clone_any (a : Option Addr) (n c : Nat) (l : List UInt8) (w : World) (hr : RdB w a n l) (hcap : n ≤ 140737488355328) (hc : a = none → c = 0) :
    Calls Try.prog 93 #[.slice a n c] w fun e w' => ∃ a' c', e = .returned (.slice a' n c') ∧ w'.ownsRow w.heap.size 5 1 (.slice a' n c') n (l.map B8) ∧ Below w.heap.size w w' := by
  obtain ⟨i, hi, hz0, hz1, hz2⟩ := info_parts dInfoB
  have HR := hid hr; have HC := hid hc; clear hr hc
  go_enter Try.func93, Try.ntmps93
  go_wp2_with (at_builtin; refine wpList_append_bytes rfl _ _ 24 rfl w.heap.size 5 i _ Try.underlying24 hi hz0 hz1 hz2 rfl _ 0 [] rfl (World.ownsRow_made w #[] 0 (Nat.le_refl _) (by unfold maxLen; omega) rfl) _ _ _ _ rfl (HR.out.below (Below.alloc (Below.refl _ _) (Nat.le_refl _) _)) HC.out (by omega) (by simp) ?_; intro a' c' w1 hown hg; have HO := hid hown; have HG := hid hg; clear hown hg)
  go_ret
  have ho := HO.out
  rw [List.nil_append, Nat.zero_add] at ho
  refine ⟨a', c', by simp, ho, ?_⟩
  exact ((Below.refl _ _).alloc (Nat.le_refl _) _).grown HG.out (by simp) (by intro q hq; cases hq; exact Nat.le_refl _)

theorem down_any (p : Nat) (s : DSt) (F : List Nat) (w : World) (h : Dk w p s F) :
    Calls Try.prog 70 #[.pointer (some ⟨p, 0, none⟩)] w fun e w' => e = .returned (.bool s.down) ∧ w = w' := by
  obtain ⟨S, nS, cS, aQ, nQ, cQ, xs, qs, D, hd, hF⟩ := h
  have h3 := hd.cell3
  clear hd hF
  go_enter Try.func70, Try.ntmps70
  go_wp2
  go_ret
  exact ⟨rfl, rfl⟩
theorem sectors_any (p : Nat) (s : DSt) (F : List Nat) (w : World) (h : Dk w p s F) :
    Calls Try.prog 90 #[.pointer (some ⟨p, 0, none⟩)] w fun e w' => e = .returned (.int .i64 (s.sec.length : Int)) ∧ w = w' := by
  obtain ⟨S, nS, cS, aQ, nQ, cQ, xs, qs, D, hd, hF⟩ := h
  have h3 := hd.cell0
  have HL := hid hd.lenSec
  clear hd hF
  go_enter Try.func90, Try.ntmps90
  go_wp2
  go_ret
  exact ⟨by rw [HL.out]; rfl, rfl⟩
theorem fuse_any (p : Nat) (s : DSt) (F : List Nat) (z : Int) (w : World) (h : Dk w p s F) (hz : z ≤ 9223372036854775807) :
    Calls Try.prog 20 #[.pointer (some ⟨p, 0, none⟩), .int .i64 z] w fun e w' => e = .returned (.tuple #[]) ∧ Dk w' p { s with fuse := max z (-1) } F ∧ Chg F w w' := by
  obtain ⟨S, nS, cS, aQ, nQ, cQ, xs, qs, D, hd, hF⟩ := h
  have h2 := hd.cell2; have hz2 := hd.fz 2
  have HD := hid hd; have HF := hid hF
  clear hd hF
  have fin : ∀ f : Int, f = max z (-1) → (Dk (w.setCell ⟨p, 2, none⟩ (.int .i64 f)) p { s with fuse := max z (-1) } F ∧ Chg F w (w.setCell ⟨p, 2, none⟩ (.int .i64 f))) := by
    intro f hf
    have hb := block_setCell (j := 2) HD.out.blk (.int .i64 f)
    rw [HF.out]
    have hc := (Chg.refl [p] w).setCell (p := ⟨p, 2, none⟩) (.inl (by simp)) (.int .i64 f)
    refine ⟨⟨S, nS, cS, aQ, nQ, cQ, xs, qs, D, ?_, rfl⟩, hc.mono (by intro k hk; simp [foot, List.mem_singleton.1 hk])⟩
    have := HD.out.struct hc (max z (-1)) s.down s.works (by omega) (by rw [← hf]; simpa using hb)
    exact this
  have FIN := hid fin; clear fin
  by_cases h1 : z < -1
  · go_enter Try.func20, Try.ntmps20
    go_wp2
    go_end0
    obtain ⟨a, b⟩ := FIN.out _ (show (-1 : Int) = max z (-1) by omega)
    exact ⟨rfl, a, b⟩
  · by_cases h3 : z = -1
    · subst h3
      go_enter Try.func20, Try.ntmps20
      go_wp2
      go_end0
      obtain ⟨a, b⟩ := FIN.out (-1) (by omega)
      exact ⟨rfl, a, b⟩
    · have h4 : -1 < z := by omega
      go_enter Try.func20, Try.ntmps20
      go_wp2
      go_end0
      obtain ⟨a, b⟩ := FIN.out z (by omega)
      exact ⟨rfl, a, b⟩
theorem work_can (p : Nat) (s : DSt) (F : List Nat) (w : World) (h : Dk w p s F) (hc : s.can = true) (hw : s.works < 4611686018427387904) :
    Calls Try.prog 103 #[.pointer (some ⟨p, 0, none⟩)] w fun e w' => e = .returned (.int .i64 0) ∧ Dk w' p s.work F ∧ Chg F w w' := by
  obtain ⟨S, nS, cS, aQ, nQ, cQ, xs, qs, D, hd, hF⟩ := h
  have h2 := hd.cell2; have h3 := hd.cell3; have h4 := hd.cell4; have hz2 := hd.fz 2; have hz3 := hd.fz 3; have hz4 := hd.fz 4
  have hf := hd.fuse
  have HD := hid hd; have HF := hid hF
  clear hd hF
  obtain ⟨hf1, hf2⟩ := hf
  obtain ⟨hdn, hf0⟩ : s.down = false ∧ s.fuse ≠ 0 := by
    unfold DSt.can at hc
    cases hd : s.down <;> simp_all
  have HCAN := hid hc; clear hc
  have fin : ∀ f : Int, f = max (s.fuse - 1) (-1) → (Dk ((w.setCell ⟨p, 2, none⟩ (.int .i64 f)).setCell ⟨p, 4, none⟩ (.int .i64 ((s.works : Int) + 1))) p s.work F ∧ Chg F w ((w.setCell ⟨p, 2, none⟩ (.int .i64 f)).setCell ⟨p, 4, none⟩ (.int .i64 ((s.works : Int) + 1)))) := by
    intro f hf
    have hb := block_setCell (j := 4) (block_setCell (j := 2) HD.out.blk (.int .i64 f)) (.int .i64 ((s.works : Int) + 1))
    rw [HF.out]
    have hc := ((Chg.refl [p] w).setCell (p := ⟨p, 2, none⟩) (.inl (by simp)) (.int .i64 f)).setCell (p := ⟨p, 4, none⟩) (.inl (by simp)) (.int .i64 ((s.works : Int) + 1))
    refine ⟨⟨S, nS, cS, aQ, nQ, cQ, xs, qs, D, ?_, rfl⟩, hc.mono (by intro k hk; simp [foot, List.mem_singleton.1 hk])⟩
    have := HD.out.struct hc (max (s.fuse - 1) (-1)) s.down (s.works + 1) (by omega) (by rw [← hf]; simpa using hb)
    unfold DSt.work
    rw [if_pos HCAN.out]
    exact this
  have FIN := hid fin; clear fin
  have hfb : (s.fuse == 0) = false := by simpa using hf0
  rw [hdn] at h3
  generalize s.fuse = fz at *
  by_cases h5 : fz - 1 < -1
  · go_enter Try.func103, Try.ntmps103
    go_wp2
    go_ret
    obtain ⟨a, b⟩ := FIN.out (-1) (by omega)
    exact ⟨rfl, a, b⟩
  · by_cases h6 : fz - 1 = -1
    · omega
    · have h7 : -1 < fz - 1 := by omega
      go_enter Try.func103, Try.ntmps103
      go_wp2
      go_ret
      obtain ⟨a, b⟩ := FIN.out (fz - 1) (by omega)
      exact ⟨rfl, a, b⟩
theorem work_cannot (p : Nat) (s : DSt) (F : List Nat) (w : World) (h : Dk w p s F) (hc : s.can = false) :
    Calls Try.prog 103 #[.pointer (some ⟨p, 0, none⟩)] w fun e w' => e = .returned (.int .i64 9) ∧ Dk w' p s.work F ∧ Chg F w w' := by
  obtain ⟨S, nS, cS, aQ, nQ, cQ, xs, qs, D, hd, hF⟩ := h
  have h2 := hd.cell2; have h3 := hd.cell3; have hz3 := hd.fz 3
  have HD := hid hd; have HF := hid hF
  have hff := hd.fuse
  clear hd hF
  have HCAN := hid hc
  have HE := hid (show s.work = { s with down := true } by unfold DSt.work; rw [if_neg (by simp [hc])])
  by_cases hf0 : s.fuse = 0
  · have fin : Dk (w.setCell ⟨p, 3, none⟩ (.bool true)) p s.work F ∧ Chg F w (w.setCell ⟨p, 3, none⟩ (.bool true)) := by
      have hb := block_setCell (j := 3) HD.out.blk (.bool true)
      rw [HF.out, HE.out]
      have hc := (Chg.refl [p] w).setCell (p := ⟨p, 3, none⟩) (.inl (by simp)) (.bool true)
      refine ⟨⟨S, nS, cS, aQ, nQ, cQ, xs, qs, D, ?_, rfl⟩, hc.mono (by intro k hk; simp [foot, List.mem_singleton.1 hk])⟩
      have := HD.out.struct hc s.fuse true s.works hff (by simpa using hb)
      exact this
    have FIN := hid fin; clear fin hc
    rw [hf0] at h2
    clear hf0 hff
    generalize s.down = dn at *
    go_enter Try.func103, Try.ntmps103
    go_wp2
    go_ret
    exact ⟨rfl, FIN.out.1, FIN.out.2⟩
  · have hdn : s.down = true := by
      unfold DSt.can at hc
      cases hd : s.down <;> simp_all
    have fin : Dk w p s.work F := by
      rw [HF.out, HE.out]
      refine ⟨S, nS, cS, aQ, nQ, cQ, xs, qs, D, ?_, rfl⟩
      have := HD.out
      cases s
      simp only at hdn
      subst hdn
      exact this
    have FIN := hid fin; clear fin hc hff
    have hfb : (s.fuse == 0) = false := by simpa using hf0
    rw [hdn] at h3
    clear hdn hf0
    generalize s.fuse = fz at *
    go_enter Try.func103, Try.ntmps103
    go_wp2
    go_ret
    exact ⟨rfl, FIN.out, Chg.refl _ _⟩
end Go.Proofs.Ytipkeifpkemcdaa
