/- WalWhole's walk. -/
import Derived.Test.YtclpkjjhphanpaaLaw4u
import Derived.Test.YtclpkjjhphanpaaDisk5
import Derived.Test.YtclpkjjhphanpaaW4Open
import Derived.Test.YtclpkjjhphanpaaWal6
import Derived.Test.YtclpkjjhphanpaaRegionP
namespace Go.Proofs.Ytclpkjjhphanpaa
open Go.RowKit
set_option linter.unusedVariables false
set_option linter.unusedSimpArgs false
set_option maxRecDepth 1000000
set_option maxHeartbeats 6400000
/-- Blocks of old, and none of the disk's. -/
def PF (w : World) (pl : Nat) (F : List Nat) : Nat → Prop := fun q => q < w.heap.size ∧ q ∉ pl :: F
section
variable {w w' : World} {pl : Nat} {F F' : List Nat} {s : Sl} {sls : List Sl} {us : List (List UInt8)}
theorem PF.to (hc : Chg (pl :: F) w w') (hf : Fresh F F' w) : ∀ q, PF w pl F q → PF w' pl F' q := fun q hq => ⟨Nat.lt_of_lt_of_le hq.1 hc.size, fun hm => by
  rcases List.mem_cons.1 hm with h' | h'
  · exact hq.2 (by rw [h']; simp)
  · rcases hf q h' with h'' | h''
    · exact hq.2 (List.mem_cons_of_mem _ h'')
    · have := hq.1; omega⟩
theorem UnQ.step (h : UnQ w (PF w pl F) s sls us) (hc : Chg (pl :: F) w w') (hf : Fresh F F' w) : UnQ w' (PF w' pl F') s sls us := (h.keep hc (fun q hq hp => hp.2 hq)).wide (PF.to hc hf)
theorem UnQ.grow (h : UnQ w (PF w pl F) s sls us) (hb : Below w.heap.size w w') : UnQ w' (PF w' pl F) s sls us := (h.below hb).wide (fun q hq => ⟨Nat.lt_of_lt_of_le hq.1 hb.size, hq.2⟩)
end
/-- A step in its box. -/
structure BxS (w : World) (bs : Nat) (x : StD) (pl : Nat) (F : List Nat) : Prop where
  bx : w.heap[bs]? = some (.cells x.cells.toArray 45 (0, 0))
  off : bs ∉ pl :: F
theorem BxS.below {w w' : World} {bs : Nat} {x : StD} {pl : Nat} {F : List Nat} (h : BxS w bs x pl F) (hb : Below w.heap.size w w') : BxS w' bs x pl F := ⟨(hb.block _ (block_lt h.bx)).trans h.bx, h.off⟩
theorem BxS.step {w w' : World} {bs : Nat} {x : StD} {pl : Nat} {F F' : List Nat} (h : BxS w bs x pl F) (hc : Chg (pl :: F) w w') (hf : Fresh F F' w) : BxS w' bs x pl F' :=
  ⟨(hc.block _ (block_lt h.bx) h.off).trans h.bx, (PF.to hc hf bs ⟨block_lt h.bx, h.off⟩).2⟩
/-- While the steps are gone through. -/
structure WwL (w0 : World) (p N nL : Nat) (y7 y10 y11 : Value) (wr : World) : Prop where
  ex : ∃ (k pl E A U : Nat) (AT : Int) (us : List (List UInt8)) (s : DSt) (F : List Nat) (aT : Option Addr) (nT cT : Nat) (slsT : List Sl), y7 = .pointer (some ⟨pl, 0, none⟩) ∧ y10 = .slice aT nT cT ∧ y11 = .int .i64 (k : Int) ∧ k ≤ nL ∧ k ≤ 30 ∧
    LgS wr p pl N E A U AT us s F ∧ UnQ wr (PF wr pl F) ⟨aT, nT, cT⟩ slsT us ∧ E ≤ k ∧ s.works ≤ 100 * k ∧ (∀ q ∈ pl :: F, w0.heap.size ≤ q) ∧ Below w0.heap.size w0 wr
/-- Behind the fuse. -/
def WwA (w0 : World) (p pl N E A U : Nat) (AT : Int) (us : List (List UInt8)) (s : DSt) (F : List Nat) (bs : Nat) (x : StD) (T : Sl) (slsT : List Sl) (wx : World) : Prop :=
  ∃ s1 : DSt, LgS wx p pl N E A U AT us s1 F ∧ UnQ wx (PF wx pl F) T slsT us ∧ BxS wx bs x pl F ∧ s1.works = s.works ∧ Below w0.heap.size w0 wx
/-- Behind the call. -/
def WwB (w0 : World) (p pl N k E A U : Nat) (AT : Int) (us : List (List UInt8)) (T : Sl) (slsT : List Sl) (bs : Nat) (x : StD) (y13 y14 : Value) (wx : World) : Prop :=
  ∃ (ec : Int) (s2 : DSt) (F2 : List Nat) (M : Sl) (slsN : List Sl) (usN : List (List UInt8)), y13 = .slice M.a M.n M.c ∧ y14 = .int .i64 ec ∧ UnQ wx (PF wx pl F2) T slsT us ∧ UnQ wx (PF wx pl F2) M slsN usN ∧ BxS wx bs x pl F2 ∧ s2.works ≤ 100 * k + 50 ∧ (∀ q ∈ pl :: F2, w0.heap.size ≤ q) ∧ Below w0.heap.size w0 wx ∧
    ((ec = 2 ∧ LgS wx p pl N E A U AT us s2 F2) ∨ (ec = 0 ∧ ∃ (E' A' U' : Nat) (AT' : Int), E' ≤ E + 1 ∧ LgS wx p pl N E' A' U' AT' usN s2 F2) ∨
     (ec = 9 ∧ Dk wx p s2 F2 ∧ s2.sec.length = N ∧ ∀ fates, ∃ (E' A' U' : Nat) (AT' : Int) (us' : List (List UInt8)), E' ≤ E + 1 ∧ Inv (s2.crash fates) E' A' U' AT' us' ∧ (us' = us ∨ us' = usN)))
/-- Behind the call, what is there told. -/
def WwC (w0 : World) (p pl N k : Nat) (ec : Int) (bs : Nat) (x : StD) (y13 : Value) (y10 : Value) (wx : World) : Prop :=
  ∃ (s2 : DSt) (F2 : List Nat) (T M : Sl) (slsT slsN : List Sl) (us1 usN : List (List UInt8)), y10 = .slice T.a T.n T.c ∧ y13 = .slice M.a M.n M.c ∧ UnQ wx (PF wx pl F2) T slsT us1 ∧ UnQ wx (PF wx pl F2) M slsN usN ∧ BxS wx bs x pl F2 ∧ s2.works ≤ 100 * k + 50 ∧ (∀ q ∈ pl :: F2, w0.heap.size ≤ q) ∧ Below w0.heap.size w0 wx ∧ Dk wx p s2 F2 ∧ s2.sec.length = N ∧
    (ec = 9 ∨ ∃ (E A U : Nat) (AT : Int), E ≤ k + 1 ∧ LgS wx p pl N E A U AT us1 s2 F2) ∧ ∀ fates, ∃ (E A U : Nat) (AT : Int) (us' : List (List UInt8)), E ≤ k + 1 ∧ Inv (s2.crash fates) E A U AT us' ∧ (us' = us1 ∨ (ec = 9 ∧ us' = usN))
theorem ww_out {w0 w w' : World} {p pl N k E A U : Nat} {AT : Int} {us : List (List UInt8)} {s : DSt} {F : List Nat} {full : Prop} {m E1 A1 U1 : Nat} {AT1 : Int} {us1 : List (List UInt8)} {e : Ending} {T M : Sl} {slsT slsN : List Sl} {bs : Nat} {x : StD}
    (h : LgOut p pl N E A U AT us s F w full m E1 A1 U1 AT1 us1 e w') (hT : UnQ w (PF w pl F) T slsT us) (hN : UnQ w (PF w pl F) M slsN us1) (hx : BxS w bs x pl F) (hm : m ≤ 50) (hE : E1 ≤ E + 1) (hw : s.works ≤ 100 * k) (hlo : ∀ q ∈ pl :: F, w0.heap.size ≤ q) (hb : Below w0.heap.size w0 w) :
    ∃ ec : Int, e = .returned (.int .i64 ec) ∧ WwB w0 p pl N k E A U AT us T slsT bs x (.slice M.a M.n M.c) (.int .i64 ec) w' := by
  obtain ⟨ec, s', F', rfl, hc, hfr, hwk, -, hcs⟩ := h
  refine ⟨ec, rfl, ec, s', F', M, slsN, us1, rfl, rfl, hT.step hc hfr, hN.step hc hfr, hx.step hc hfr, by omega, fun q hq => ?_, hb.trans (hc.below hlo hb.size), ?_⟩
  · rcases List.mem_cons.1 hq with h | h
    · exact hlo q (by rw [h]; simp)
    · rcases hfr q h with h' | h'
      · exact hlo q (List.mem_cons_of_mem _ h')
      · have := hb.size; omega
  · rcases hcs with ⟨h1, -, h3, -⟩ | ⟨h1, -, h3⟩ | ⟨h1, -, h3, h4, h5⟩
    · exact .inl ⟨h1, h3⟩
    · exact .inr (.inl ⟨h1, E1, A1, U1, AT1, hE, h3⟩)
    · refine .inr (.inr ⟨h1, h3, h4, fun fates => ?_⟩)
      rcases h5 fates with h | h
      · exact ⟨E, A, U, AT, us, by omega, h, .inl rfl⟩
      · exact ⟨E1, A1, U1, AT1, us1, hE, h, .inr rfl⟩
theorem crashed_len4 (fates : List Int) : ∀ (l : List (Nat × List UInt8)) (sec : List (List UInt8 × Bool)) (i : Nat), (crashed fates sec i l).length = sec.length
  | [], _, _ => rfl
  | x :: l, sec, i => by
    unfold crashed
    rw [crashed_len4 fates l]
    split
    · simp
    · split <;> simp
theorem crash_len4 (s : DSt) (fates : List Int) : (s.crash fates).sec.length = s.sec.length := crashed_len4 _ _ _ _
theorem IntsA.rc {w : World} {a : Option Addr} {n : Nat} {l : List Int} (h : IntsA w a n l) : RdC w a n (ints l) := by
  refine ⟨by simp [ints, h.len], fun j hj => ?_⟩
  obtain ⟨b, off, z, h1, h2, h3, h4⟩ := h.row j hj
  refine ⟨b, off, h1, fun i u hu => ?_⟩
  have hi : i < n := by
    have := (List.getElem?_eq_some_iff.1 hu).1
    simpa [ints, h.len] using this
  obtain ⟨b', off', z', k1, k2, k3, k4⟩ := h.row i hi
  rw [h1] at k1
  cases k1
  simp only [ints, List.getElem?_map, k2, Option.map_some, Option.some.injEq] at hu
  rw [← hu]
  exact k4
theorem IntsA.bd {w : World} {a : Option Addr} {n : Nat} {l : List Int} (h : IntsA w a n l) : ∀ z ∈ l, -9223372036854775808 ≤ z ∧ z ≤ 9223372036854775807 := fun z hz => by
  obtain ⟨k, hk⟩ := List.getElem?_of_mem hz
  obtain ⟨b, off, z', h1, h2, h3, h4⟩ := h.row k (by have := (List.getElem?_eq_some_iff.1 hk).1; rw [h.len] at this; exact this)
  obtain rfl : z = z' := Option.some.inj (hk.symm.trans h2)
  exact h3
/-- Behind a fall and an Open the next round begins. -/
theorem ww_next {w0 w6 w7 w8 : World} {p pl N nL k E A U : Nat} {AT : Int} {us : List (List UInt8)} {s : DSt} {F : List Nat} {aU : Option Addr} {nU cU : Nat} {sls : List Sl} (hl : LgS w7 p pl N E A U AT us s F) (hu : UnQ w7 (fun q => pl < q ∧ q < w7.heap.size) ⟨aU, nU, cU⟩ sls us) (hp : w6.heap.size ≤ pl) (hd : ∀ q ∈ F, q < w6.heap.size)
    (h67 : Below w6.heap.size w6 w7) (h78 : Below w7.heap.size w7 w8) (hb : Below w0.heap.size w0 w6) (hlo : ∀ q ∈ F, w0.heap.size ≤ q) (hk1 : k < nL) (hk2 : k < 30) (hE : E ≤ k + 1) (hw : s.works ≤ 100 * k + 50) : WwL w0 p N nL (.pointer (some ⟨pl, 0, none⟩)) (.slice aU nU cU) (.int .i64 ((k : Int) + 1)) w8 :=
  ⟨⟨k + 1, pl, E, A, U, AT, us, s, F, aU, nU, cU, sls, rfl, rfl, rfl, hk1, hk2, hl.below h78, (hu.below h78).wide (fun q hq => ⟨Nat.lt_of_lt_of_le hq.2 h78.size, fun hm => by
    rcases List.mem_cons.1 hm with h | h
    · have := hq.1; omega
    · have := hd q h; have := hq.1; omega⟩), hE, by omega, fun q hq => by
    rcases List.mem_cons.1 hq with h | h
    · have := hb.size; omega
    · exact hlo q h, hb.trans ((h67.trans (h78.mono h67.size)).mono hb.size)⟩⟩
theorem UnQ.of1 {w : World} {P : Nat → Prop} {g : Nat} {a : Option Addr} {n c : Nat} {l : List UInt8} {T : TypeId} (hb : w.heap[g]? = some (.cells #[.slice a n c] T (0, 0))) (hr : RdB w a n l) (hno : a = none → c = 0) (hn : n ≤ 1099511627776) (hg : P g) (ha : ∀ b off sp, a = some ⟨b, off, sp⟩ → P b) :
    UnQ w P ⟨some ⟨g, 0, none⟩, 1, 1⟩ [⟨a, n, c⟩] [l] := by
  refine ⟨⟨rfl, fun j hj => ⟨g, 0, rfl, fun i u hu => ?_⟩⟩, rfl, (fun h => by cases h), fun b off sp e => by cases e; exact hg, fun k sl m h1 h2 => ?_⟩
  · cases i with
    | zero => simp only [List.map_cons, List.map_nil, List.getElem?_cons_zero, Option.some.injEq] at hu; rw [← hu]; exact cell_of_block (j := 0) hb rfl
    | succ i => simp at hu
  · cases k with
    | zero =>
      simp only [List.getElem?_cons_zero, Option.some.injEq] at h1 h2
      rw [← h1, ← h2]
      exact ⟨hr, hno, hn, ha⟩
    | succ k => simp at h1
theorem StArgs.ok {w : World} {a : Option Addr} {n : Nat} {l : List StD} (h : StArgs w a n l) {k : Nat} (hk : k < n) {x : StD} (hx : l[k]? = some x) : x.ok w := by
  obtain ⟨b, off, y, -, h2, -, h4⟩ := h.row k hk
  obtain rfl : y = x := Option.some.inj (h2.symm.trans hx)
  exact h4
def stBf (lo n : Nat) (l : List UInt8) : St Grow := ⟨fun v w => ∃ a c, v = .slice a n c ∧ RdB w a n l ∧ (a = none → c = 0) ∧ ∀ b off sp, a = some ⟨b, off, sp⟩ → lo ≤ b ∧ b < w.heap.size, fun v w w' h hg => let ⟨a, c, e, h1, h2, h3⟩ := h; ⟨a, c, e, h1.below hg, h2, fun b off sp e => ⟨(h3 b off sp e).1, Nat.lt_of_lt_of_le (h3 b off sp e).2 hg.size⟩⟩⟩
theorem wwApp {w w8 : World} {P P2 : Nat → Prop} {aT aU a : Option Addr} {nT cT nU cU c : Nat} {T : TypeId} {slsT slsU : List Sl} {us vs : List (List UInt8)} (h1 : UnQ w P ⟨aT, nT, cT⟩ slsT us) (h2 : UnQ w P2 ⟨aU, nU, cU⟩ slsU vs) (hx : Below w.heap.size w w8)
    (ho : w8.ownsRow w.heap.size T 1 (.slice a (nT + nU) c) (nT + nU) (slsT.map Sl.v ++ slsU.map Sl.v)) : UnQ w8 (fun q => P q ∨ P2 q ∨ (w.heap.size ≤ q ∧ q < w8.heap.size)) ⟨a, nT + nU, c⟩ (slsT ++ slsU) (us ++ vs) := by
  have h3 := RdC.of_own ho
  have l1 := h1.len; have l2 := h2.len; have m1 := h1.lu; have m2 := h2.lu
  rw [Nat.mul_one, ← List.map_append] at h3
  dsimp only at l1 l2 m1 m2
  refine ⟨h3, by rw [List.length_append]; show _ = nT + nU; omega, (own_slice ho).2.1, fun b off sp e => .inr (.inr (own_at ho b off sp e)), fun k sl l e1 e2 => ?_⟩
  rcases Nat.lt_or_ge k nT with hk | hk
  · rw [List.getElem?_append_left (by omega)] at e1 e2
    obtain ⟨k1, k2, k3, k4⟩ := (h1.below hx).rd k sl l e1 e2
    exact ⟨k1, k2, k3, fun b off sp e => .inl (k4 b off sp e)⟩
  · rw [List.getElem?_append_right (by omega)] at e1 e2
    obtain ⟨k1, k2, k3, k4⟩ := (h2.below hx).rd (k - nT) sl l (by rw [← l1]; exact e1) (by rw [← m1]; exact e2)
    exact ⟨k1, k2, k3, fun b off sp e => .inr (.inl (k4 b off sp e))⟩
theorem size_small {us : List (List UInt8)} (h : ∀ l ∈ us, l.length < 150) : sizeAll us ≤ 4 * us.length := by
  induction us with
  | nil => exact Nat.le_refl _
  | cons x us ih =>
    have h1 := h x (by simp)
    have h2 := ih (fun l hl => h l (List.mem_cons_of_mem _ hl))
    unfold sizeAll at *
    rw [List.map_cons, List.sum_cons, List.length_cons]
    unfold unitSize at *
    omega
def Halt (p : Prop) : Prop := p
theorem haltI {p : Prop} (h : Halt p) : p := h
theorem haltO {p : Prop} (h : p) : Halt p := h
theorem alloc_size (w : World) (o : Obj) : (w.alloc o).heap.size = w.heap.size + 1 := by simp
theorem stSizeW : (Try.prog.info? 45).map (·.size) = some 5 := by kernel_rfl
theorem stZeroW : (Try.prog.info? 45).map (·.zero) = some (some (.agg #[.int .i64 0, .int .i64 0, .slice none 0 0, .slice none 0 0, .slice none 0 0])) := by kernel_rfl
theorem stUs : (Try.prog.info? 32).map (fun i => (i.zero, i.size, i.bytes)) = some (some (.slice none 0 0), 1, 24) := by kernel_rfl
theorem stOne (x : StD) : x.cells.toArray.all (·.oneCell') = true := by simp [StD.cells, Value.oneCell']
theorem walWhole_walk (zn : Int) (aL : Option Addr) (nL cL : Nat) (l : List StD) (w : World) (hal : StArgs w aL nL l) :
    Calls Try.prog 5 #[.int .i64 zn, .slice aL nL cL] w fun e w' => e = .returned (.bool true) ∧ Below w.heap.size w w' := by
  have HAL := hid hal
  have hnL := hal.sm
  clear hal
  have hlo := pick_lo zn 30 (by omega)
  have hhi := pick_hi zn 30 (by omega)
  obtain ⟨pk, hpk⟩ := Int.eq_ofNat_of_zero_le hlo
  have HPK := hid hpk
  have hpkl : pk < 30 := by omega
  clear hlo hhi hpk
  obtain ⟨N, hN⟩ : ∃ N, N = 8 + pk := ⟨_, rfl⟩
  have hN8 : 8 ≤ N ∧ N ≤ 37 := by omega
  have hadd : IntKind.i64.wrap (8 + (pk : Int)) = (N : Int) := by rw [IntWalk.i64_in _ (by omega)]; omega
  clear hN
  go_enter Try.func5, Try.ntmps5
  go_wp2_with fail
  refine (pick_any zn 30 _ (by omega) (by omega)).mono ?_
  rintro e wz ⟨rfl, rfl⟩
  rw [HPK.out]
  dsimp only
  go_wp2_with fail
  clear hadd
  refine (new_any N _ hN8.1 (by omega)).mono ?_
  rintro e w1 ⟨FD, rfl, hd, hb1, hf1⟩
  dsimp only
  have HD := hid hd; have HB1 := hid hb1; have HF1 := hid hf1
  obtain ⟨p, hp⟩ : ∃ p, p = w.heap.size := ⟨_, rfl⟩
  have HP := hid hp
  rw [← hp] at HD ⊢
  clear hd hb1 hf1 hp
  go_wp2_with fail
  refine (open0_any N p FD _ HD.out hN8.1).mono ?_
  rintro e w2 ⟨pl, rfl, hlg, hd2, hb2, hpl⟩
  dsimp only
  have hpf : pl ∉ FD := fun hm => by have h1 := Dk.lt HD.out pl hm; omega
  have S := hid (show LgS w2 p pl N 0 0 0 (-1) [] (DSt.new N) FD from ⟨hlg, hd2, hpf, Inv.new N hN8.1 (by omega), by simp [DSt.new]⟩)
  have HB2 := hid (HB1.out.trans (hb2.mono HB1.out.size))
  have HLO := hid (show ∀ q ∈ pl :: FD, w.heap.size ≤ q from fun q hq => by
    rcases List.mem_cons.1 hq with h | h
    · have := HB1.out.size; omega
    · exact HF1.out q h)
  clear hlg hd2 hb2 hpl hpf HD HB1 HF1
  go_wp2_with fail
  refine (known4_any _).mono ?_
  rintro e w3 ⟨rfl, hb3⟩
  dsimp only
  have S3 := hid (S.out.below hb3)
  have HB3 := hid (HB2.out.trans (hb3.mono HB2.out.size))
  clear hb3 S HB2
  go_wp2_with fail
  go_loopw [7, 10, 11] (fun y7 y10 y11 wr => WwL w p N nL y7 y10 y11 wr) (fun _ _ y11 _ => 30 - (intOf y11).toNat)
  case atStart => exact ⟨⟨0, pl, 0, 0, 0, -1, [], _, _, none, 0, 0, [], rfl, rfl, rfl, Nat.zero_le _, Nat.zero_le _, S3.out, UnQ.nil _ _, Nat.le_refl _, Nat.zero_le _, HLO.out, HB3.out⟩⟩
  case round =>
    clear S3 HB3 HLO
    obtain ⟨k, pl, E, A, U, AT, us, s, F, aT, nT, cT, slsT, rfl, rfl, rfl, hkn, hk30, hs, hun, hE, hw, hlow, hb⟩ := hrel.ex
    clear hrel
    have S := hid hs; have HUN := hid hun; have HLO := hid hlow; have HB := hid hb; have HW := hid hw
    clear hs hun hlow hb hw
    by_cases k1 : k < nL
    · have k1z : (k : Int) < (nL : Int) := by omega
      by_cases k2 : k < 30
      · have k2z : (k : Int) < 30 := by omega
        obtain ⟨bL, oL, x, haL, hlx, hrow, hxo⟩ := (HAL.out.below HB.out).row k k1
        have HXO := hid hxo; have HLX := hid hlx
        have HR := hid hrow
        subst haL
        clear hxo hlx hrow
        go_upto_region 11 with (first | (refine wpList_load_mid rfl 45 _ rfl bL (oL + k * 5) rfl x.cells _ HR.out Try.underlying45 rfl stSizeW ?_) | (refine wpList_alloc_obj rfl 45 rfl _ stZeroW ?_) | (refine wpList_store_obj rfl 45 _ _ rfl wr.heap.size rfl x.cells.toArray rfl _ _ (block_new wr _) rfl stSizeW (stOne x) ?_; intro w5 hb5 hc5 hs5; have HX := hid hb5; have HC5 := hid hc5; clear hb5 hc5 hs5))
        have hbel : Below wr.heap.size wr w5 := ((Below.refl _ wr).alloc (Nat.le_refl _) _).trans (HC5.out.below (fun k hk => by rw [List.mem_singleton.1 hk]; exact Nat.le_refl _) (by simp))
        have S5 := hid (S.out.below hbel)
        have HUN5 := hid (HUN.out.grow hbel)
        have HB5 := hid (HB.out.trans (hbel.mono HB.out.size))
        have HBX := hid (show BxS w5 wr.heap.size x pl F from ⟨HX.out, fun hm => by have := S.out.low _ hm; omega⟩)
        clear hbel HC5 HX S HUN HB
        generalize wr.heap.size = bs at *
        have hcn : w5.cell? ⟨bs, 1, none⟩ = some (.int .i64 x.n) := cell_of_block (j := 1) HBX.out.bx rfl
        go_upto_if 67 with (fail)
        clear hcn
        generalize hb4 : (x.n.tmod 4 == 0) = b4
        clear hb4
        go_cut [] (fun wx => WwA w p pl N E A U AT us s F bs x ⟨aT, nT, cT⟩ slsT wx)
        case first =>
          have hcn : w5.cell? ⟨bs, 1, none⟩ = some (.int .i64 x.n) := cell_of_block (j := 1) HBX.out.bx rfl
          cases b4 with
          | true =>
            go_wp2_with fail
            refine (pick_any _ 10 _ (by omega) (by omega)).mono ?_
            have hlo := pick_lo (wrap64 (x.n.tdiv 4)) 10 (by omega)
            have hhi := pick_hi (wrap64 (x.n.tdiv 4)) 10 (by omega)
            generalize pick (wrap64 (x.n.tdiv 4)) 10 = z at *
            rintro e wz ⟨rfl, rfl⟩
            dsimp only
            clear hcn
            go_wp2_with fail
            refine (fuse_any p s F z _ S5.out.dk (by omega)).mono ?_
            rintro e w6 ⟨rfl, hd6, hc6⟩
            dsimp only
            have hc6' : Chg (pl :: F) w5 w6 := hc6.mono (fun q hq => List.mem_cons_of_mem _ hq)
            have hfr6 : Fresh F F w5 := fun q hq => .inl hq
            have S6 := hid (show LgS w6 p pl N E A U AT us { s with fuse := max z (-1) } F from ⟨(hc6.block _ (block_lt S5.out.lg) S5.out.pf).trans S5.out.lg, hd6, S5.out.pf, S5.out.inv.sec rfl S5.out.inv.pn S5.out.inv.up, S5.out.sl⟩)
            have HUN6 := hid (HUN5.out.step hc6' hfr6)
            have HBX6 := hid (HBX.out.step hc6' hfr6)
            have HB6 := hid (HB5.out.trans (hc6'.below HLO.out HB5.out.size))
            clear hc6 hc6' hfr6 hd6
            go_wp2_with fail
            go_meet
            exact ⟨_, S6.out, HUN6.out, HBX6.out, rfl, HB6.out⟩
          | false =>
            go_wp2_with fail
            go_meet
            exact ⟨s, S5.out, HUN5.out, HBX.out, rfl, HB5.out⟩
        obtain ⟨s1, hs, hun, hbx, hws, hb⟩ := hcut
        have S := hid hs; have HUN := hid hun; have HBX1 := hid hbx; have HB := hid hb
        have HW1 : Hid (s1.works ≤ 100 * k) := by show _ ≤ _; rw [hws]; exact HW.out
        clear hs hun hbx hws hb S5 HUN5 HB5 HBX HW
        have hcn : World.cell? _ ⟨bs, 0, none⟩ = some (Value.int .i64 x.what) := cell_of_block (j := 0) HBX1.out.bx rfl
        go_wp2_with fail
        refine (pick_any _ 5 _ (by omega) (by omega)).mono ?_
        rintro e wz ⟨rfl, rfl⟩
        dsimp only
        go_upto_if 77 with (fail)
        clear hcn
        generalize hb5 : (pick x.what 5 == 4) = b5
        clear hb5
        go_cut [13, 14] (fun y13 y14 wx => WwB w p pl N k E A U AT us ⟨aT, nT, cT⟩ slsT bs x y13 y14 wx)
        case first =>
          cases b5 with
          | true =>
            have hlo := pick_lo x.n 300 (by omega)
            have hhi := pick_hi x.n 300 (by omega)
            obtain ⟨pz, hpz⟩ := Int.eq_ofNat_of_zero_le hlo
            have HPZ := hid hpz
            have hpzl : pz < 300 := by omega
            clear hlo hhi hpz
            go_upto_region 16 with (fail)
            refine wp_region_each 7 [.eq (.pointer (some ⟨bs, 1, none⟩)), .eq (.int .i64 x.n), .eq (.int .i64 (pz : Int)), .eq (.pointer (some ⟨bs, 1, none⟩)), .eq (.int .i64 x.n), stBf wc.heap.size pz (handBytes pz x.n), stBf wc.heap.size pz (handBytes pz x.n)] (by kernel_rfl) (by kernel_rfl) (by kernel_rfl) (by kernel_rfl) ?_ ?_
            · all_goals
                refine each_5 ?_ ?_ ?_ ?_ ?_ (each_c ?_ (each_c ?_ (each_n)))
                · intro w1 hg Ar seen
                  have s12 := seen.sl 12 (.pointer (some ⟨bs, 0, none⟩))
                  refine does_plain rfl fun K Q' hK => ?_
                  go_simp; exact hK _ _ (Grow.refl _) rfl
                · intro w1 hg Ar seen
                  have e0 := seen.de 0 78
                  refine does_plain rfl fun K Q' hK => ?_
                  have hc : w1.cell? ⟨bs, 1, none⟩ = some (.int .i64 x.n) := cell_of_block (j := 1) ((hg.block _ (block_lt HBX1.out.bx)).trans HBX1.out.bx) rfl
                  go_simp; exact hK _ _ (Grow.refl _) rfl
                · intro w1 hg Ar seen
                  have e1 := seen.de 1 79
                  refine does_plain rfl fun K Q' hK => ?_
                  go_simp
                  refine (pick_any x.n 300 _ (by omega) (by omega)).mono ?_
                  rintro e u ⟨rfl, rfl⟩
                  exact hK _ _ (Grow.refl _) (congrArg (Value.int .i64) HPZ.out)
                · intro w1 hg Ar seen
                  have s12 := seen.sl 12 (.pointer (some ⟨bs, 0, none⟩))
                  refine does_plain rfl fun K Q' hK => ?_
                  go_simp; exact hK _ _ (Grow.refl _) rfl
                · intro w1 hg Ar seen
                  have e3 := seen.de 3 81
                  refine does_plain rfl fun K Q' hK => ?_
                  have hc : w1.cell? ⟨bs, 1, none⟩ = some (.int .i64 x.n) := cell_of_block (j := 1) ((hg.block _ (block_lt HBX1.out.bx)).trans HBX1.out.bx) rfl
                  go_simp; exact hK _ _ (Grow.refl _) rfl
                · intro w1 hg Ar seen
                  have e2 := seen.de 2 80
                  obtain ⟨v4, e4, h4⟩ := seen.dp 4 82
                  rcases h4 with rfl
                  refine does_plain rfl fun K Q' hK => ?_
                  go_simp
                  refine (bytes_any pz x.n _ (by omega)).mono ?_
                  rintro e u ⟨a2, c2, rfl, ho2, hb2⟩
                  exact hK _ _ hb2 ⟨a2, c2, rfl, RdB.of_own ho2, (own_slice ho2).2.1, fun b off sp e => by have h3 := own_at ho2 b off sp e; have h4 := hg.size; omega⟩
                · intro w1 hg Ar seen
                  obtain ⟨v5, e5, h5⟩ := seen.dp 5 83
                  refine does_plain rfl fun K Q' hK => ?_
                  go_simp
                  exact hK _ _ (Grow.refl _) h5
            intro w1 hg
            refine upon_w' (js := [0, 1, 2, 3, 4, 5, 6]) (by rfl) ?_
            refine upon_e (some 78) (upon_e (some 79) (upon_e (some 80) (upon_e (some 81) (upon_e (some 82) (upon_v (some 83) fun v5 h5 => upon_v (some 15) fun v6 h6 => upon_n ?_)))))
            go_simp
            obtain ⟨a2, c2, rfl, hr2, hno2, hb2⟩ := h6
            have HR2 := hid hr2; have HNO2 := hid hno2; have HB2 := hid hb2
            have S6 := hid (S.out.below hg)
            have HUN6 := hid (HUN.out.grow hg)
            have HBX6 := hid (HBX1.out.below hg)
            have HB6 := hid (HB.out.trans (hg.mono HB.out.size))
            have HLW := hid (fun q hq => S.out.low q hq)
            have HGS := hid hg.size
            clear hr2 hno2 hb2 hg S HUN HBX1 HB h5 HPZ
            go_wp2_with fail
            have bA : Below w1.heap.size w1 (w1.alloc (Obj.cells #[Value.slice a2 pz c2] 32)) := (Below.refl _ _).alloc (Nat.le_refl _) _
            have hA := block_new w1 (Obj.cells #[Value.slice a2 pz c2] 32)
            have sA : (w1.alloc (Obj.cells #[Value.slice a2 pz c2] 32)).heap.size = w1.heap.size + 1 := alloc_size _ _
            obtain ⟨wA, hwA⟩ : ∃ y, w1.alloc (Obj.cells #[Value.slice a2 pz c2] 32) = y := ⟨_, rfl⟩
            rw [hwA] at bA hA sA ⊢
            have hr3 := HR2.out.below bA
            have hln := hr3.len
            have huz : unitSize (handBytes pz x.n).length + 3 ≤ 50 := by rw [hln]; unfold unitSize; omega
            have hw1 := HW1.out
            have hnx : UnQ wA (PF wA pl F) ⟨some ⟨w1.heap.size, 0, none⟩, 1, 1⟩ [⟨a2, pz, c2⟩] [handBytes pz x.n] := UnQ.of1 hA hr3 HNO2.out (by omega) ⟨by omega, fun hm => by have h1 := HLW.out _ hm; have h2 := HGS.out; omega⟩ (fun b off sp e => by
              have h3 := HB2.out b off sp e
              exact ⟨by omega, fun hm => by have h1 := HLW.out _ hm; omega⟩)
            refine (resetS_any (S6.out.below bA) a2 pz c2 (handBytes pz x.n) hr3 HNO2.out (by omega) (by omega) (by omega)).mono ?_
            intro e w7 hout
            obtain ⟨ec, rfl, hww⟩ := ww_out (M := ⟨some ⟨w1.heap.size, 0, none⟩, 1, 1⟩) hout (HUN6.out.grow bA) hnx (HBX6.out.below bA) huz (Nat.le_refl _) hw1 HLO.out (HB6.out.trans (bA.mono HB6.out.size))
            have HWW := hid hww
            clear hww hout hnx hr3 hln huz hw1 bA hA sA hwA
            dsimp only
            go_wp2_with fail
            go_meet
            exact HWW.out
          | false =>
            have XOK := hid ((HAL.out.below HB.out).ok k1 HLX.out)
            go_wp2_with (refine wpList_load_row rfl 45 _ rfl bs rfl _ _ _ _ HBX1.out.bx Try.underlying45 rfl stSizeW ?_)
            refine (texts_any x _ XOK.out).mono ?_
            intro e w6 hres
            obtain ⟨aU, nU, cU, slsU, vs, rfl, hunq, hn4, hsm, hb6⟩ := hres
            dsimp only
            have HVS := hid hunq; have HSM := hid hsm
            have S6 := hid (S.out.below hb6)
            have HUN6 := hid (HUN.out.grow hb6)
            have HBX6 := hid (HBX1.out.below hb6)
            have HB6 := hid (HB.out.trans (hb6.mono HB.out.size))
            have HLW := hid (fun q hq => S.out.low q hq)
            clear hunq hsm hb6 S HUN HBX1 HB XOK
            obtain ⟨i, hi, hz0, hz1, hz2⟩ := info_parts stUs
            have hnT : nT ≤ 2048 := by
              have h1 := len_sizeAll us; have h2 := S6.out.inv.sz; have h3 := S6.out.inv.ul; have h4 := S6.out.inv.ln; have h5 := HUN6.out.lu
              dsimp only at h5
              omega
            have HA1 := hid (((Below.refl w6.heap.size w6).alloc (Nat.le_refl _) (.cells #[] 32)))
            go_wp2_with (at_builtin; refine haltI ?_)
            refine haltO ?_
            (refine wpList_append_c rfl _ _ 23 rfl w6.heap.size 32 i _ 1 24 Try.underlying23 hi hz0 hz1 hz2 rfl (by decide) (.slice (some ⟨w6.heap.size, 0, none⟩) 0 0) 0 [] rfl (World.ownsRow_made w6 #[] 0 (Nat.le_refl _) (by unfold maxLen; omega) rfl) aT nT cT (slsT.map Sl.v) rfl (by rw [Nat.mul_one]; exact (HUN6.out.below HA1.out).rc) (fun u hu => by obtain ⟨v, -, rfl⟩ := List.mem_map.1 hu; rfl) HUN6.out.no (by unfold maxLen; omega) (by omega) (by simp) ?_)
            intro aX cX w7
            rw [Nat.zero_add, List.nil_append]
            intro hown hgw hfr
            have HO7 := hid hown
            have HB7 := hid (HA1.out.grown hgw HA1.out.size (fun q hq => by cases hq; exact Nat.le_refl _))
            clear hown hgw hfr
            go_wp2_with (at_builtin; refine haltI ?_)
            refine haltO ?_
            (refine wpList_append_c rfl _ _ 23 rfl w6.heap.size 32 i _ 1 24 Try.underlying23 hi hz0 hz1 hz2 rfl (by decide) (.slice aX nT cX) nT _ rfl HO7.out aU nU cU (slsU.map Sl.v) rfl (by rw [Nat.mul_one]; exact (HVS.out.below HB7.out).rc) (fun u hu => by obtain ⟨v, -, rfl⟩ := List.mem_map.1 hu; rfl) HVS.out.no (by unfold maxLen; omega) (by omega) HB7.out.size ?_)
            intro aY cY w8 hown hgw hfr
            have HO8 := hid hown
            have HB8 := hid (HB7.out.grown hgw HB7.out.size (fun q hq => (HO7.out.lt q hq).1))
            have hvn : vs.length ≤ 4 := by have := HVS.out.lu; dsimp only at this; omega
            have hm : sizeAll vs + 3 ≤ 50 := by have := size_small HSM.out; omega
            have hw1 := HW1.out
            have hE1 : (if vs = [] then E else E + 1) ≤ E + 1 := by split <;> omega
            have S8 := hid (S6.out.below HB8.out)
            have HN8 := hid ((wwApp HUN6.out HVS.out HB8.out HO8.out).wide (P' := PF w8 pl F) (fun q hq => by
              have h0 := HB8.out.size
              rcases hq with h | h | h
              · exact ⟨by have := h.1; omega, h.2⟩
              · exact ⟨by omega, fun hm => by have h1 := HLW.out q hm; omega⟩
              · exact ⟨h.2, fun hm => by have h1 := S6.out.low q hm; omega⟩))
            have HVA := hid (HVS.out.below HB8.out).un
            have HT8 := hid (HUN6.out.grow HB8.out)
            have HX8 := hid (HBX6.out.below HB8.out)
            have HBB8 := hid (HB6.out.trans (HB8.out.mono HB6.out.size))
            clear hown hgw hfr HO8 HO7 HB7 HA1 HVS S6 HUN6 HBX6 HB6 HLW HSM hnT hvn
            go_wp2_with fail
            refine (appendS_any S8.out aU nU cU vs HVA.out (by omega) (by omega) (by omega)).mono ?_
            intro e w9 hout
            obtain ⟨ec, rfl, hww⟩ := ww_out (M := ⟨aY, nT + nU, cY⟩) hout HT8.out HN8.out HX8.out hm hE1 hw1 HLO.out HBB8.out
            have HWW := hid hww
            clear hww hout hm hE1 hw1
            dsimp only
            go_wp2_with fail
            go_meet
            exact HWW.out
        obtain ⟨ec, s2, F2, M, slsN, usN, e13, e14, hunT, hunM, hbx2, hwk2, hlow2, hb2, hcs⟩ := hcut
        subst e14
        have HE := hid hE
        clear S HUN HBX1 HB HW1 hE
        have HU1 := hid hunT; have HU2 := hid hunM; have HBX2 := hid hbx2; have HWK2 := hid hwk2; have HLO2 := hid hlow2; have HBB2 := hid hb2; have HCS := hid hcs
        have HE13 := hid e13
        clear hunT hunM hbx2 hwk2 hlow2 hb2 hcs e13
        go_upto_if 100 with (fail)
        generalize hb6 : (ec == 0) = b6
        have HB6 := hid hb6
        clear hb6
        go_cut [10] (fun y10 wx => WwC w p pl N k ec bs x u13 y10 wx)
        case first =>
          cases b6 with
          | true =>
            go_wp2_with fail
            go_meet
            obtain rfl : ec = 0 := by have := HB6.out; simpa using this
            have h1 := HE.out
            rcases HCS.out with ⟨h2, -⟩ | ⟨-, E', A', U', AT', h2, h3⟩ | ⟨h2, -⟩
            · omega
            · exact ⟨s2, F2, M, M, slsN, slsN, usN, usN, HE13.out, HE13.out, HU2.out, HU2.out, HBX2.out, HWK2.out, HLO2.out, HBB2.out, h3.dk, h3.sl, .inr ⟨E', A', U', AT', by omega, h3⟩, fun fates => ⟨E', A', U', AT', usN, by omega, h3.inv.crash fates, .inl rfl⟩⟩
            · omega
          | false =>
            go_wp2_with fail
            go_meet
            have h0 : ec ≠ 0 := by have := HB6.out; simpa using this
            have h1 := HE.out
            rcases HCS.out with ⟨h2, h3⟩ | ⟨h2, -⟩ | ⟨h2, h3, h4, h5⟩
            · exact ⟨s2, F2, ⟨aT, nT, cT⟩, M, slsT, slsN, us, usN, rfl, HE13.out, HU1.out, HU2.out, HBX2.out, HWK2.out, HLO2.out, HBB2.out, h3.dk, h3.sl, .inr ⟨E, A, U, AT, by omega, h3⟩, fun fates => ⟨E, A, U, AT, us, by omega, h3.inv.crash fates, .inl rfl⟩⟩
            · exact absurd h2 h0
            · exact ⟨s2, F2, ⟨aT, nT, cT⟩, M, slsT, slsN, us, usN, rfl, HE13.out, HU1.out, HU2.out, HBX2.out, HWK2.out, HLO2.out, HBB2.out, h3, h4, .inl h2, fun fates => by
                obtain ⟨E', A', U', AT', us', g1, g2, g3⟩ := h5 fates
                exact ⟨E', A', U', AT', us', by omega, g2, g3.imp id (fun g => ⟨h2, g⟩)⟩⟩
        clear HU1 HU2 HBX2 HWK2 HLO2 HBB2 HCS HB6 HE13 HE HLO
        obtain ⟨s2, F2, T, M, slsT, slsN, us1, usN, e10, e13, hunT, hunM, hbx2, hwk2, hlow2, hb2, hdk2, hsl2, hoc, hcs⟩ := hcut
        subst e10 e13
        have HU1 := hid hunT; have HU2 := hid hunM; have HBX2 := hid hbx2; have HWK2 := hid hwk2; have HLO2 := hid hlow2; have HBB2 := hid hb2; have HDK2 := hid hdk2; have HSL2 := hid hsl2; have HOC := hid hoc; have HCS := hid hcs
        clear hunT hunM hbx2 hwk2 hlow2 hb2 hdk2 hsl2 hoc hcs
        have hcn : World.cell? _ ⟨bs, 0, none⟩ = some (Value.int .i64 x.what) := cell_of_block (j := 0) HBX2.out.bx rfl
        have HFT := hid (show ∀ w1, Chg F2 wc w1 → IntsA w1 x.fa x.fn x.fl from fun w1 hc => (HAL.out.ok k1 HLX.out).fates.below (HBB2.out.trans (hc.below (fun q hq => HLO2.out q (List.mem_cons_of_mem _ hq)) HBB2.out.size)))
        have hcn3 : World.cell? _ ⟨bs, 3, none⟩ = some (Value.slice x.fa x.fn x.fc) := cell_of_block (j := 3) HBX2.out.bx rfl
        go_upto_if 109 with (fail)
        · have HE9 := hid (show True from trivial)
          clear HE9
          go_wp2_with fail
          refine (crash_any p s2 F2 x.fa x.fn x.fc x.fl _ HDK2.out (HFT.out _ (Chg.refl _ _)).rc (HFT.out _ (Chg.refl _ _)).bd (fun w1 hc => (HFT.out w1 hc).rc)).mono ?_
          rintro e w6 ⟨rfl, hc6, F3, hd6, hf6⟩
          dsimp only
          have hC6 : Chg (pl :: F2) wc w6 := hc6.mono (fun q hq => List.mem_cons_of_mem _ hq)
          have HU16 := hid (HU1.out.step hC6 hf6)
          have HU26 := hid (HU2.out.step hC6 hf6)
          have HB6 := hid (HBB2.out.trans (hC6.below HLO2.out HBB2.out.size))
          have HLO6 := hid (show ∀ q ∈ F3, w.heap.size ≤ q from fun q hq => by
            rcases hf6 q hq with h | h
            · exact HLO2.out q (List.mem_cons_of_mem _ h)
            · have := HBB2.out.size; omega)
          have HD6 := hid hd6
          have hcs' := HCS.out x.fl
          obtain ⟨E', A', U', AT', us', hE', hinv, hus⟩ := hcs'
          have HE6 := hid hE'; have HINV := hid hinv; have HUS := hid hus
          have HSL6 := hid ((crash_len4 s2 x.fl).trans HSL2.out)
          clear hC6 hc6 hd6 hf6 hcn3 hE' hinv hus HU1 HU2 HBX2 HLO2 HBB2 HDK2 HSL2 HOC HCS HFT
          go_wp2_with fail
          refine (openS_any HD6.out HINV.out HSL6.out).mono ?_
          rintro e w7 ⟨pl', aU, nU, cU, sls, rfl, hlg, hun, hb7, hpl'⟩
          dsimp only
          have S7 := hid hlg; have HUN7 := hid hun; have HB7 := hid hb7; have HPL := hid hpl'
          have hn40 : nU ≤ 1099511627776 := by
            have h1 := len_sizeAll us'; have h2 := hlg.inv.sz; have h3 := hlg.inv.ul; have h4 := hlg.inv.ln; have h5 := hun.lu
            dsimp only at h5
            omega
          have HU17 := hid (HU16.out.grow hb7)
          have HU27 := hid (HU26.out.grow hb7)
          clear hlg hun hb7 hpl' HU16 HU26
          go_wp2_with fail
          refine (unitsEq_any aU T.a nU cU T.n T.c us' us1 _ HUN7.out.un HU17.out.un hn40).mono ?_
          rintro e w8 ⟨rfl, hb8⟩
          dsimp only
          have HB8 := hid hb8
          clear hb8
          by_cases hu : us' = us1
          · rw [decide_eq_true hu]
            have HRR := ww_next (k := k) (nL := nL) S7.out HUN7.out HPL.out (Dk.lt HD6.out) HB7.out HB8.out HB6.out HLO6.out k1 k2 HE6.out HWK2.out
            go_wp2_with fail
            go_roundw
            case rel => first | exact HRR | ((repeat apply Exists.intro); exact HRR) | ((repeat apply Exists.intro); exact ⟨HRR, rfl⟩)
            case measure => (simp [intOf] <;> omega)
          · rw [decide_eq_false hu]
            have hu2 : us' = usN := by rcases HUS.out with h | ⟨-, h⟩; exact absurd h hu; exact h
            go_wp2_with fail
            refine (unitsEq_any aU M.a nU cU M.n M.c us' usN _ (HUN7.out.below HB8.out).un (HU27.out.grow HB8.out).un hn40).mono ?_
            rintro e w9 ⟨rfl, hb9⟩
            dsimp only
            rw [decide_eq_true hu2]
            have HRR := ww_next (k := k) (nL := nL) S7.out HUN7.out HPL.out (Dk.lt HD6.out) HB7.out (HB8.out.trans (hb9.mono HB8.out.size)) HB6.out HLO6.out k1 k2 HE6.out HWK2.out
            clear hb9 hu2
            go_wp2_with fail
            go_roundw
            case rel => first | exact HRR | ((repeat apply Exists.intro); exact HRR) | ((repeat apply Exists.intro); exact ⟨HRR, rfl⟩)
            case measure => (simp [intOf] <;> omega)
        · rename_i he9
          have e9 : (ec != 9 && x.what.tmod 3 != 0) = (x.what.tmod 3 != 0) := by simp [he9]
          rw [e9]
          clear e9
          generalize hb7 : (x.what.tmod 3 != 0) = b7
          clear hb7
          cases b7 with
          | true =>
            rcases HOC.out with h9 | ⟨E', A', U', AT', h1, h2⟩
            · exact absurd h9 he9
            · have hw2 := HWK2.out
              have HRR : WwL w p N nL (.pointer (some ⟨pl, 0, none⟩)) (.slice T.a T.n T.c) (.int .i64 ((k : Int) + 1)) wc := ⟨⟨k + 1, pl, E', A', U', AT', us1, s2, F2, T.a, T.n, T.c, slsT, rfl, rfl, rfl, k1, k2, h2, HU1.out, h1, by omega, HLO2.out, HBB2.out⟩⟩
              go_wp2_with fail
              go_roundw
              case rel => first | exact HRR | ((repeat apply Exists.intro); exact HRR) | ((repeat apply Exists.intro); exact ⟨HRR, rfl⟩)
              case measure => (simp [intOf] <;> omega)
          | false =>
            skip
            go_wp2_with fail
            refine (crash_any p s2 F2 x.fa x.fn x.fc x.fl _ HDK2.out (HFT.out _ (Chg.refl _ _)).rc (HFT.out _ (Chg.refl _ _)).bd (fun w1 hc => (HFT.out w1 hc).rc)).mono ?_
            rintro e w6 ⟨rfl, hc6, F3, hd6, hf6⟩
            dsimp only
            have hC6 : Chg (pl :: F2) wc w6 := hc6.mono (fun q hq => List.mem_cons_of_mem _ hq)
            have HU16 := hid (HU1.out.step hC6 hf6)
            have HU26 := hid (HU2.out.step hC6 hf6)
            have HB6 := hid (HBB2.out.trans (hC6.below HLO2.out HBB2.out.size))
            have HLO6 := hid (show ∀ q ∈ F3, w.heap.size ≤ q from fun q hq => by
              rcases hf6 q hq with h | h
              · exact HLO2.out q (List.mem_cons_of_mem _ h)
              · have := HBB2.out.size; omega)
            have HD6 := hid hd6
            have hcs' := HCS.out x.fl
            obtain ⟨E', A', U', AT', us', hE', hinv, hus⟩ := hcs'
            have HE6 := hid hE'; have HINV := hid hinv; have HUS := hid hus
            have HSL6 := hid ((crash_len4 s2 x.fl).trans HSL2.out)
            clear hC6 hc6 hd6 hf6 hcn3 hE' hinv hus HU1 HU2 HBX2 HLO2 HBB2 HDK2 HSL2 HOC HCS HFT
            go_wp2_with fail
            refine (openS_any HD6.out HINV.out HSL6.out).mono ?_
            rintro e w7 ⟨pl', aU, nU, cU, sls, rfl, hlg, hun, hb7, hpl'⟩
            dsimp only
            have S7 := hid hlg; have HUN7 := hid hun; have HB7 := hid hb7; have HPL := hid hpl'
            have hn40 : nU ≤ 1099511627776 := by
              have h1 := len_sizeAll us'; have h2 := hlg.inv.sz; have h3 := hlg.inv.ul; have h4 := hlg.inv.ln; have h5 := hun.lu
              dsimp only at h5
              omega
            have HU17 := hid (HU16.out.grow hb7)
            have HU27 := hid (HU26.out.grow hb7)
            clear hlg hun hb7 hpl' HU16 HU26
            go_wp2_with fail
            refine (unitsEq_any aU T.a nU cU T.n T.c us' us1 _ HUN7.out.un HU17.out.un hn40).mono ?_
            rintro e w8 ⟨rfl, hb8⟩
            dsimp only
            have HB8 := hid hb8
            clear hb8
            have hu : us' = us1 := by rcases HUS.out with h | ⟨h, -⟩; exact h; exact absurd h he9
            rw [decide_eq_true hu]
            have HRR := ww_next (k := k) (nL := nL) S7.out HUN7.out HPL.out (Dk.lt HD6.out) HB7.out HB8.out HB6.out HLO6.out k1 k2 HE6.out HWK2.out
            clear hu
            go_wp2_with fail
            go_roundw
            case rel => first | exact HRR | ((repeat apply Exists.intro); exact HRR) | ((repeat apply Exists.intro); exact ⟨HRR, rfl⟩)
            case measure => (simp [intOf] <;> omega)
      · as_aux_lemma =>
        have k2z : ¬ (k : Int) < 30 := by omega
        go_wp2_with fail
        refine (crash_any p s F none 0 0 [] _ S.out.dk (RdC.nil _ _) (fun z hz => by cases hz) (fun w1 hc => RdC.nil _ _)).mono ?_
        rintro e w6 ⟨rfl, hc6, F3, hd6, hf6⟩
        dsimp only
        have hC6 : Chg (pl :: F) wr w6 := hc6.mono (fun q hq => List.mem_cons_of_mem _ hq)
        have HUN6 := hid (HUN.out.step hC6 hf6)
        have HB6 := hid (HB.out.trans (hC6.below HLO.out HB.out.size))
        have HD6 := hid hd6
        have HINV := hid (S.out.inv.crash [])
        have HSL6 := hid ((crash_len4 s []).trans S.out.sl)
        clear hC6 hc6 hd6 hf6 S HUN HB HLO
        go_wp2_with fail
        refine (openS_any HD6.out HINV.out HSL6.out).mono ?_
        rintro e w7 ⟨pl', aU, nU, cU, sls, rfl, hlg, hun, hb7, hpl'⟩
        dsimp only
        have HUN7 := hid hun; have HB7 := hid hb7
        have hn40 : nU ≤ 1099511627776 := by
          have h1 := len_sizeAll us; have h2 := hlg.inv.sz; have h3 := hlg.inv.ul; have h4 := hlg.inv.ln; have h5 := hun.lu
          dsimp only at h5
          omega
        have HU17 := hid (HUN6.out.grow hb7)
        clear hlg hun hb7 hpl' HUN6
        go_wp2_with fail
        refine (unitsEq_any aU aT nU cU nT cT us us _ HUN7.out.un HU17.out.un hn40).mono ?_
        rintro e w8 ⟨rfl, hb8⟩
        dsimp only
        rw [decide_eq_true rfl]
        have HB8 := hid (HB6.out.trans ((HB7.out.trans (hb8.mono HB7.out.size)).mono HB6.out.size))
        clear hb8
        go_wp2_with fail
        go_ret
        exact ⟨rfl, HB8.out⟩
    · as_aux_lemma =>
      have k1z : ¬ (k : Int) < (nL : Int) := by omega
      go_wp2_with fail
      refine (crash_any p s F none 0 0 [] _ S.out.dk (RdC.nil _ _) (fun z hz => by cases hz) (fun w1 hc => RdC.nil _ _)).mono ?_
      rintro e w6 ⟨rfl, hc6, F3, hd6, hf6⟩
      dsimp only
      have hC6 : Chg (pl :: F) wr w6 := hc6.mono (fun q hq => List.mem_cons_of_mem _ hq)
      have HUN6 := hid (HUN.out.step hC6 hf6)
      have HB6 := hid (HB.out.trans (hC6.below HLO.out HB.out.size))
      have HD6 := hid hd6
      have HINV := hid (S.out.inv.crash [])
      have HSL6 := hid ((crash_len4 s []).trans S.out.sl)
      clear hC6 hc6 hd6 hf6 S HUN HB HLO
      go_wp2_with fail
      refine (openS_any HD6.out HINV.out HSL6.out).mono ?_
      rintro e w7 ⟨pl', aU, nU, cU, sls, rfl, hlg, hun, hb7, hpl'⟩
      dsimp only
      have HUN7 := hid hun; have HB7 := hid hb7
      have hn40 : nU ≤ 1099511627776 := by
        have h1 := len_sizeAll us; have h2 := hlg.inv.sz; have h3 := hlg.inv.ul; have h4 := hlg.inv.ln; have h5 := hun.lu
        dsimp only at h5
        omega
      have HU17 := hid (HUN6.out.grow hb7)
      clear hlg hun hb7 hpl' HUN6
      go_wp2_with fail
      refine (unitsEq_any aU aT nU cU nT cT us us _ HUN7.out.un HU17.out.un hn40).mono ?_
      rintro e w8 ⟨rfl, hb8⟩
      dsimp only
      rw [decide_eq_true rfl]
      have HB8 := hid (HB6.out.trans ((HB7.out.trans (hb8.mono HB7.out.size)).mono HB6.out.size))
      clear hb8
      go_wp2_with fail
      go_ret
      exact ⟨rfl, HB8.out⟩
end Go.Proofs.Ytclpkjjhphanpaa
