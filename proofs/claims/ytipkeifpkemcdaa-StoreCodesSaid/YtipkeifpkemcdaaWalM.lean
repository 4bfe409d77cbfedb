/- A log on a disk that holds units: Append, Reset, Open, told by the units. -/
import Derived.Test.YtipkeifpkemcdaaWalL
namespace Go.Proofs.Ytipkeifpkemcdaa
open Go.RowKit
set_option linter.unusedVariables false
set_option linter.unusedSimpArgs false
set_option maxRecDepth 100000
set_option maxHeartbeats 6400000
/-- A disk that does not fall. -/
def UpD (s : DSt) : Prop := s.fuse = -1 ∧ s.down = false
theorem UpD.can {s : DSt} (h : UpD s) : s.can = true := by unfold DSt.can; rw [h.1, h.2]; rfl
theorem UpD.work {s : DSt} (h : UpD s) : UpD s.work := by unfold DSt.work; rw [if_pos h.can]; exact ⟨by show max (s.fuse - 1) (-1) = -1; rw [h.1]; rfl, h.2⟩
theorem UpD.go {s : DSt} (h : UpD s) (x : Wk) : UpD (x.go s) := by
  cases x with
  | wr k d => show UpD (s.write k d); unfold DSt.write; rw [if_pos h.can]; exact ⟨h.work.1, h.work.2⟩
  | fl => show UpD s.flush; unfold DSt.flush; rw [if_pos h.can]; exact ⟨h.work.1, h.work.2⟩
theorem runW_up : ∀ (xs : List Wk) (s : DSt), UpD s → (runW xs s).2 = true ∧ UpD (runW xs s).1
  | [], s, h => ⟨rfl, h⟩
  | x :: xs, s, h => by rw [runW_cons, if_pos h.can]; exact runW_up xs (x.go s) (h.go x)
theorem runW_len : ∀ (xs : List Wk) (s : DSt), (runW xs s).1.sec.length = s.sec.length ∧ (runW xs s).1.works ≤ s.works + xs.length
  | [], s => ⟨rfl, Nat.le_refl _⟩
  | x :: xs, s => by
    have h6 := go_small x s
    rw [runW_cons]
    split
    · have h := runW_len xs (x.go s)
      refine ⟨by omega, ?_⟩
      rw [List.length_cons]; omega
    · refine ⟨h6.1, ?_⟩
      show (x.go s).works ≤ _
      rw [List.length_cons]; omega
/-- A log on a disk that holds units. -/
structure LgS (w : World) (p pl N E A U : Nat) (AT : Int) (us : List (List UInt8)) (s : DSt) (F : List Nat) : Prop where
  lg : w.heap[pl]? = some (.cells (logArr p E (A : Int) (U : Int) AT false) 118 (0, 0))
  dk : Dk w p s F
  pf : pl ∉ F
  inv : Inv s E A U AT us
  sl : s.sec.length = N
section
variable {w w' : World} {p pl N E A U : Nat} {AT : Int} {us : List (List UInt8)} {s : DSt} {F : List Nat}
theorem LgS.below (h : LgS w p pl N E A U AT us s F) (hb : Below w.heap.size w w') : LgS w' p pl N E A U AT us s F :=
  ⟨(hb.block _ (block_lt h.lg)).trans h.lg, h.dk.below hb, h.pf, h.inv, h.sl⟩
theorem LgS.low (h : LgS w p pl N E A U AT us s F) : ∀ q ∈ pl :: F, q < w.heap.size := fun q hq => by
  rcases List.mem_cons.1 hq with h' | h'
  · rw [h']; exact block_lt h.lg
  · exact Dk.lt h.dk q h'
end
/-- What is answered where units are to be laid: all behind, none, or it falls between. -/
def LgOut (p pl N E A U : Nat) (AT : Int) (us : List (List UInt8)) (s : DSt) (F : List Nat) (w : World) (full : Prop) (m E1 A1 U1 : Nat) (AT1 : Int) (us1 : List (List UInt8)) (e : Ending) (w' : World) : Prop :=
  ∃ (ec : Int) (s' : DSt) (F' : List Nat), e = .returned (.int .i64 ec) ∧ Chg (pl :: F) w w' ∧ Fresh F F' w ∧ s'.works ≤ s.works + m ∧ (UpD s → ec ≠ 9 ∧ UpD s') ∧
    ((ec = 2 ∧ full ∧ LgS w' p pl N E A U AT us s' F' ∧ s' = s) ∨ (ec = 0 ∧ ¬ full ∧ LgS w' p pl N E1 A1 U1 AT1 us1 s' F') ∨
     (ec = 9 ∧ ¬ full ∧ Dk w' p s' F' ∧ s'.sec.length = N ∧ (∀ fates, Inv (s'.crash fates) E A U AT us ∨ Inv (s'.crash fates) E1 A1 U1 AT1 us1)))
theorem sizeAll_app (us vs : List (List UInt8)) : sizeAll (us ++ vs) = sizeAll us + sizeAll vs := by unfold sizeAll; rw [List.map_append, List.sum_append]
theorem layAll_app (us vs : List (List UInt8)) : layAll (us ++ vs) = layAll us ++ layAll vs := by unfold layAll; rw [List.flatMap_append]
theorem chunk_left (a b : List UInt8) (i n : Nat) (ha : a.length = 64 * n) (hi : i < n) : chunk (a ++ b) i = chunk a i := by
  unfold chunk
  rw [List.drop_append_of_le_length (by omega), List.take_append_of_le_length (by rw [List.length_drop]; omega)]
theorem chunk_right (a b : List UInt8) (i n : Nat) (ha : a.length = 64 * n) : chunk (a ++ b) (n + i) = chunk b i := by
  unfold chunk
  rw [show 64 * (n + i) = a.length + 64 * i by omega, List.drop_append, List.drop_eq_nil_of_le (by omega), Nat.add_sub_cancel_left, List.nil_append]
theorem Inv.append {s : DSt} {E A U : Nat} {AT : Int} {us : List (List UInt8)} (h : Inv s E A U AT us) {vs : List (List UInt8)} (hE : E + 1 < 18446744073709551616) (hf : sizeAll vs ≤ (s.sec.length - 2) / 2 - U) {R : DSt × Bool}
    (hR : runW (comW (2 + A * ((s.sec.length - 2) / 2) + U) (layAll vs) (sizeAll vs) (if AT = 0 then 1 else 0) (headB (E + 1) (A : Int) ((U + sizeAll vs : Nat) : Int))) s = R) :
    (R.2 = true → Inv R.1 (E + 1) A (U + sizeAll vs) ((if AT = 0 then 1 else 0 : Nat) : Int) (us ++ vs)) ∧
    (R.2 = false → ∀ fates, Inv (R.1.crash fates) E A U AT us ∨ Inv (R.1.crash fates) (E + 1) A (U + sizeAll vs) ((if AT = 0 then 1 else 0 : Nat) : Int) (us ++ vs)) := by
  have hul := h.ul; have ha1 := h.a1; have hln := h.ln
  obtain ⟨H, hH⟩ : ∃ H, (s.sec.length - 2) / 2 = H := ⟨_, rfl⟩
  have hAH : A * H + H ≤ s.sec.length - 2 := by rcases (show A = 0 ∨ A = 1 by omega) with rfl | rfl <;> omega
  refine h.commit hE h.a1 (by rw [sizeAll_app, h.sz]) (by omega) (layAll_len vs) (by omega) (by rw [hH]; omega) (.inl (Nat.le_refl _)) ?_ hR
  intro i hi
  have hlu : (layAll us).length = 64 * U := by rw [layAll_len, h.sz]
  rw [layAll_app]
  rcases Nat.lt_or_ge i U with hiU | hiU
  · rw [done_off _ _ _ (wrs_off (.inl (by omega))), h.dt i hiU, chunk_left _ _ _ _ hlu hiU]
  · obtain ⟨k, rfl⟩ := Nat.exists_eq_add_of_le hiU
    rw [show 2 + A * ((s.sec.length - 2) / 2) + (U + k) = 2 + A * ((s.sec.length - 2) / 2) + U + k by omega, done_wrs _ _ _ _ (by rw [hH]; omega) k (by omega), chunk_right _ _ _ _ hlu]
theorem Inv.reset {s : DSt} {E A U : Nat} {AT : Int} {us : List (List UInt8)} (h : Inv s E A U AT us) {l : List UInt8} (hE : E + 1 < 18446744073709551616) (hf : unitSize l.length ≤ (s.sec.length - 2) / 2) {R : DSt × Bool}
    (hR : runW (comW (2 + (1 - A) * ((s.sec.length - 2) / 2)) (layB l) (unitSize l.length) (if AT = 0 then 1 else 0) (headB (E + 1) ((1 - A : Nat) : Int) (unitSize l.length : Int))) s = R) :
    (R.2 = true → Inv R.1 (E + 1) (1 - A) (unitSize l.length) ((if AT = 0 then 1 else 0 : Nat) : Int) [l]) ∧
    (R.2 = false → ∀ fates, Inv (R.1.crash fates) E A U AT us ∨ Inv (R.1.crash fates) (E + 1) (1 - A) (unitSize l.length) ((if AT = 0 then 1 else 0 : Nat) : Int) [l]) := by
  have hul := h.ul; have ha1 := h.a1; have hln := h.ln
  obtain ⟨H, hH⟩ : ∃ H, (s.sec.length - 2) / 2 = H := ⟨_, rfl⟩
  have h1l : layAll [l] = layB l := by unfold layAll; simp
  refine h.commit hE (by omega) (by unfold sizeAll; simp) hf (layB_len l) (by omega) ?_ ?_ ?_ hR
  · rcases (show A = 0 ∨ A = 1 by omega) with rfl | rfl <;> omega
  · rcases (show A = 0 ∨ A = 1 by omega) with rfl | rfl <;> omega
  · intro i hi
    rw [h1l, done_wrs _ _ _ _ ?_ i hi]
    rcases (show A = 0 ∨ A = 1 by omega) with rfl | rfl <;> omega
theorem appendS_any {p pl N E A U : Nat} {AT : Int} {us : List (List UInt8)} {s : DSt} {F : List Nat} {w : World} (h : LgS w p pl N E A U AT us s F) (aU : Option Addr) (nU cU : Nat) (vs : List (List UInt8)) (hu : UnA w aU nU vs) (hE : E + 1 < 18446744073709551616) (hsz : sizeAll vs ≤ 1073741824) (hw : s.works < 1152921504606846976) :
    Calls Try.prog 74 #[.pointer (some ⟨pl, 0, none⟩), .slice aU nU cU] w
      (LgOut p pl N E A U AT us s F w ((N - 2) / 2 - U < sizeAll vs) (sizeAll vs + 3) (if vs = [] then E else E + 1) A (U + sizeAll vs) (if vs = [] then AT else ((if AT = 0 then 1 else 0 : Nat) : Int)) (us ++ vs)) := by
  have hul := h.inv.ul
  have hsl := h.sl
  refine (Append_any pl p E A U AT aU nU cU vs s F w hu h.lg h.dk h.pf h.inv.ln.1 h.inv.ln.2 h.inv.a1 h.inv.ul hE hsz hw (by rw [h.inv.pn]; decide)).mono ?_
  rintro e w' (⟨rfl, rfl, hb⟩ | ⟨hne, hfl, rfl, hb⟩ | ⟨hne, hfit, R, hR, rfl, hc, hlg, F', hd, hfr⟩)
  · refine ⟨0, s, F, rfl, Chg.of_below hb _, fun q hq => .inl hq, by omega, fun hu => ⟨by decide, hu⟩, .inr (.inl ⟨rfl, Nat.not_lt_zero _, ?_⟩)⟩
    rw [if_pos rfl, if_pos rfl, List.append_nil]
    exact h.below hb
  · exact ⟨2, s, F, rfl, Chg.of_below hb _, fun q hq => .inl hq, by omega, fun hu => ⟨by decide, hu⟩, .inl ⟨rfl, by rw [← hsl]; exact hfl, h.below hb, rfl⟩⟩
  · have hcm := h.inv.append hE hfit hR
    have hlen := runW_len (comW (2 + A * ((s.sec.length - 2) / 2) + U) (layAll vs) (sizeAll vs) (if AT = 0 then 1 else 0) (headB (E + 1) (A : Int) ((U + sizeAll vs : Nat) : Int))) s
    have hup := runW_up (comW (2 + A * ((s.sec.length - 2) / 2) + U) (layAll vs) (sizeAll vs) (if AT = 0 then 1 else 0) (headB (E + 1) (A : Int) ((U + sizeAll vs : Nat) : Int))) s
    rw [hR, comW_len] at hlen
    rw [hR] at hup
    have hpf : pl ∉ F' := fun hm => by
      rcases hfr pl hm with h' | h'
      · exact h.pf h'
      · have := block_lt h.lg; omega
    have hnf : ¬ ((N - 2) / 2 - U < sizeAll vs) := by rw [← hsl]; omega
    rw [if_neg hne, if_neg hne]
    cases hok : R.2 with
    | true =>
      rw [hok] at hlg
      exact ⟨0, R.1, F', rfl, hc, hfr, by omega, fun hu => ⟨by decide, (hup hu).2⟩, .inr (.inl ⟨rfl, hnf, hlg, hd, hpf, hcm.1 hok, by rw [hlen.1]; exact hsl⟩)⟩
    | false => exact ⟨9, R.1, F', rfl, hc, hfr, by omega, (fun hu => by have := (hup hu).1; rw [hok] at this; cases this), .inr (.inr ⟨rfl, hnf, hd, by rw [hlen.1]; exact hsl, hcm.2 hok⟩)⟩
theorem resetS_any {p pl N E A U : Nat} {AT : Int} {us : List (List UInt8)} {s : DSt} {F : List Nat} {w : World} (h : LgS w p pl N E A U AT us s F) (aB : Option Addr) (nB cB : Nat) (l : List UInt8) (hr : RdB w aB nB l) (hno : aB = none → cB = 0) (hn40 : nB ≤ 1073741824) (hE : E + 1 < 18446744073709551616) (hw : s.works < 1152921504606846976) :
    Calls Try.prog 75 #[.pointer (some ⟨pl, 0, none⟩), .slice aB nB cB] w
      (LgOut p pl N E A U AT us s F w ((N - 2) / 2 < unitSize l.length) (unitSize l.length + 3) (E + 1) (1 - A) (unitSize l.length) ((if AT = 0 then 1 else 0 : Nat) : Int) [l]) := by
  have hul := h.inv.ul
  have hsl := h.sl
  refine (Reset_any pl p E A U AT aB nB cB l s F w hr hno hn40 h.lg h.dk h.pf h.inv.ln.1 h.inv.ln.2 h.inv.a1 hE hw (by rw [h.inv.pn]; decide)).mono ?_
  rintro e w' (⟨hfl, rfl, hb⟩ | ⟨hfit, R, hR, rfl, hc, hlg, F', hd, hfr⟩)
  · exact ⟨2, s, F, rfl, Chg.of_below hb _, fun q hq => .inl hq, by omega, fun hu => ⟨by decide, hu⟩, .inl ⟨rfl, by rw [← hsl]; exact hfl, h.below hb, rfl⟩⟩
  · have hcm := h.inv.reset hE hfit hR
    have hlen := runW_len (comW (2 + (1 - A) * ((s.sec.length - 2) / 2)) (layB l) (unitSize l.length) (if AT = 0 then 1 else 0) (headB (E + 1) ((1 - A : Nat) : Int) (unitSize l.length : Int))) s
    have hup := runW_up (comW (2 + (1 - A) * ((s.sec.length - 2) / 2)) (layB l) (unitSize l.length) (if AT = 0 then 1 else 0) (headB (E + 1) ((1 - A : Nat) : Int) (unitSize l.length : Int))) s
    rw [hR, comW_len] at hlen
    rw [hR] at hup
    have hpf : pl ∉ F' := fun hm => by
      rcases hfr pl hm with h' | h'
      · exact h.pf h'
      · have := block_lt h.lg; omega
    have hnf : ¬ ((N - 2) / 2 < unitSize l.length) := by rw [← hsl]; omega
    cases hok : R.2 with
    | true =>
      rw [hok] at hlg
      exact ⟨0, R.1, F', rfl, hc, hfr, by omega, fun hu => ⟨by decide, (hup hu).2⟩, .inr (.inl ⟨rfl, hnf, hlg, hd, hpf, hcm.1 hok, by rw [hlen.1]; exact hsl⟩)⟩
    | false => exact ⟨9, R.1, F', rfl, hc, hfr, by omega, (fun hu => by have := (hup hu).1; rw [hok] at this; cases this), .inr (.inr ⟨rfl, hnf, hd, by rw [hlen.1]; exact hsl, hcm.2 hok⟩)⟩
/-- Opened again: the units that it holds. -/
def OpenOut (p N E A U : Nat) (AT : Int) (us : List (List UInt8)) (s : DSt) (F : List Nat) (w : World) (e : Ending) (w' : World) : Prop := ∃ (pl : Nat) (aU : Option Addr) (nU cU : Nat) (sls : List Sl), e = .returned (.tuple #[.pointer (some ⟨pl, 0, none⟩), .slice aU nU cU, .int .i64 0]) ∧ LgS w' p pl N E A U AT us s F ∧ UnQ w' (fun q => pl < q ∧ q < w'.heap.size) ⟨aU, nU, cU⟩ sls us ∧ Below w.heap.size w w' ∧ w.heap.size ≤ pl
theorem openS_any {p N E A U : Nat} {AT : Int} {us : List (List UInt8)} {s : DSt} {F : List Nat} {w : World} (hd : Dk w p s F) (hi : Inv s E A U AT us) (hs : s.sec.length = N) :
    Calls Try.prog 51 #[.pointer (some ⟨p, 0, none⟩)] w (OpenOut p N E A U AT us s F w) := by
  refine (openAny_any p E A U AT us s F w hd hi.up hi.ln.1 (by have := hi.ln.2; omega) hi.len hi.uni hi.a1 hi.ul hi.sz hi.rd).mono ?_
  rintro e w' ⟨pl, aU, nU, cU, sls, rfl, hl, hun, hb, hp⟩
  exact ⟨pl, aU, nU, cU, sls, rfl, ⟨hl, hd.below hb, fun hm => by have := Dk.lt hd pl hm; omega, hi, hs⟩, hun, hb, hp⟩
end Go.Proofs.Ytipkeifpkemcdaa
