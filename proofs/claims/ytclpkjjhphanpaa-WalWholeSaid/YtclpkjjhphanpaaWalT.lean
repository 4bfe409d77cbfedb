/- law4.texts: units of raw sizes. -/
import Derived.Test.YtclpkjjhphanpaaWalJ
import Derived.Test.YtclpkjjhphanpaaInts
namespace Go.Proofs.Ytclpkjjhphanpaa
open Go.RowKit
set_option linter.unusedVariables false
set_option linter.unusedSimpArgs false
set_option maxRecDepth 100000
set_option maxHeartbeats 6400000
/-- A row of numbers that came in. -/
structure IntsA (w : World) (a : Option Addr) (n : Nat) (l : List Int) : Prop where
  len : l.length = n
  sm : n ≤ 140737488355328
  row : ∀ k, k < n → ∃ b off z, a = some ⟨b, off, none⟩ ∧ l[k]? = some z ∧ (-9223372036854775808 ≤ z ∧ z ≤ 9223372036854775807) ∧ w.cell? ⟨b, off + k, none⟩ = some (.int .i64 z)
theorem IntsA.below {w w' : World} {a : Option Addr} {n : Nat} {l : List Int} (h : IntsA w a n l) (hb : Below w.heap.size w w') : IntsA w' a n l :=
  ⟨h.len, h.sm, fun k hk => let ⟨b, off, z, h1, h2, h3, h4⟩ := h.row k hk; ⟨b, off, z, h1, h2, h3, (Chg.of_below hb []).cell h4 (by simp)⟩⟩
/-- A step. -/
structure StD where
  what : Int := 0
  n : Int := 0
  sa : Option Addr := none
  sn : Nat := 0
  sc : Nat := 0
  sl : List Int := []
  fa : Option Addr := none
  fn : Nat := 0
  fc : Nat := 0
  fl : List Int := []
  ba : Option Addr := none
  bn : Nat := 0
  bc : Nat := 0
  bl : List UInt8 := []
instance : Inhabited StD := ⟨{}⟩
def StD.cells (x : StD) : List Value := [.int .i64 x.what, .int .i64 x.n, .slice x.sa x.sn x.sc, .slice x.fa x.fn x.fc, .slice x.ba x.bn x.bc]
structure StD.ok (w : World) (x : StD) : Prop where
  n : -9223372036854775808 ≤ x.n ∧ x.n ≤ 9223372036854775807
  what : -9223372036854775808 ≤ x.what ∧ x.what ≤ 9223372036854775807
  sizes : IntsA w x.sa x.sn x.sl
  fates : IntsA w x.fa x.fn x.fl
theorem StD.ok.below {w w' : World} {x : StD} (h : x.ok w) (hb : Below w.heap.size w w') : x.ok w' := ⟨h.n, h.what, h.sizes.below hb, h.fates.below hb⟩
/-- Units in a row, wherever it stands; all of it in blocks of P. -/
structure UnQ (w : World) (P : Nat → Prop) (s : Sl) (sls : List Sl) (us : List (List UInt8)) : Prop where
  rc : RdC w s.a s.n (sls.map Sl.v)
  lu : us.length = s.n
  no : s.a = none → s.c = 0
  at_ : ∀ b off sp, s.a = some ⟨b, off, sp⟩ → P b
  rd : ∀ (k : Nat) (sl : Sl) (l : List UInt8), sls[k]? = some sl → us[k]? = some l → RdB w sl.a sl.n l ∧ (sl.a = none → sl.c = 0) ∧ sl.n ≤ 1099511627776 ∧ ∀ b off sp, sl.a = some ⟨b, off, sp⟩ → P b
section
variable {w w' : World} {P P' : Nat → Prop} {s : Sl} {sls : List Sl} {us : List (List UInt8)} {G : List Nat}
theorem UnQ.nil (w : World) (P : Nat → Prop) : UnQ w P {} [] [] := ⟨RdC.nil _ _, rfl, fun _ => rfl, (fun b off sp h => by cases h), fun k sl l h _ => by simp at h⟩
theorem UnQ.len (h : UnQ w P s sls us) : sls.length = s.n := by have := h.rc.len; simpa using this
theorem UnQ.keep (h : UnQ w P s sls us) (hc : Chg G w w') (hG : ∀ q ∈ G, ¬ P q) : UnQ w' P s sls us :=
  ⟨hc.rdC h.rc (fun b off sp hb hm => hG _ hm (h.at_ b off sp hb)), h.lu, h.no, h.at_, fun k sl l h1 h2 => let ⟨a, b, c, d⟩ := h.rd k sl l h1 h2; ⟨hc.rdB a (fun b off sp hb hm => hG _ hm (d b off sp hb)), b, c, d⟩⟩
theorem UnQ.below (h : UnQ w P s sls us) (hb : Below w.heap.size w w') : UnQ w' P s sls us := h.keep (Chg.of_below hb []) (fun q hm => by cases hm)
theorem UnQ.wide (h : UnQ w P s sls us) (hP : ∀ q, P q → P' q) : UnQ w P' s sls us :=
  ⟨h.rc, h.lu, h.no, fun b off sp e => hP _ (h.at_ b off sp e), fun k sl l h1 h2 => let ⟨a, b, c, d⟩ := h.rd k sl l h1 h2; ⟨a, b, c, fun b off sp e => hP _ (d b off sp e)⟩⟩
theorem UnQ.un (h : UnQ w P s sls us) : UnA w s.a s.n us := by
  refine ⟨h.lu, fun k hk => ?_⟩
  have h1 : sls[k]? = some (sls[k]'(by rw [h.len]; exact hk)) := List.getElem?_eq_getElem _
  have h2 : us[k]? = some (us[k]'(by rw [h.lu]; exact hk)) := List.getElem?_eq_getElem _
  obtain ⟨k1, k2, k3, k4⟩ := h.rd k _ _ h1 h2
  obtain ⟨b, off, ha, hc⟩ := h.rc.cell k hk
  exact ⟨b, off, _, _, _, _, ha, h2, hc k _ (by rw [List.getElem?_map, h1]; rfl), k1, k2, k3⟩
end
/-- A row of slices of bytes of the call's own. -/
structure OwnU (w : World) (base : Nat) (s : Sl) (sls : List Sl) (us : List (List UInt8)) : Prop where
  own : w.ownsRow base 32 1 (.slice s.a s.n s.c) s.n (sls.map Sl.v)
  lu : us.length = s.n
  rd : ∀ (k : Nat) (sl : Sl) (l : List UInt8), sls[k]? = some sl → us[k]? = some l → RdB w sl.a sl.n l ∧ (sl.a = none → sl.c = 0) ∧ sl.n < 150 ∧ ∀ b off sp, sl.a = some ⟨b, off, sp⟩ → base ≤ b ∧ b < w.heap.size ∧ s.v.ownBlock ≠ some b
section
variable {w w' W : World} {base : Nat} {s : Sl} {sls : List Sl} {us : List (List UInt8)}
theorem OwnU.nil (w : World) (base : Nat) : OwnU w base {} [] [] := ⟨World.ownsRow_nil w base 32 1, rfl, fun k sl l h _ => by simp at h⟩
theorem OwnU.len (h : OwnU w base s sls us) : sls.length = s.n := by have := h.own.1; simpa using this
theorem OwnU.below (h : OwnU w base s sls us) (hb : Below w.heap.size w w') : OwnU w' base s sls us :=
  ⟨(Chg.of_below hb []).owns h.own (fun _ _ hm => by cases hm), h.lu, fun k sl l h1 h2 => let ⟨a, b, c, d⟩ := h.rd k sl l h1 h2; ⟨a.below hb, b, c, fun q off sp e => ⟨(d q off sp e).1, Nat.lt_of_lt_of_le (d q off sp e).2.1 hb.size, (d q off sp e).2.2⟩⟩⟩
theorem OwnU.app (h : OwnU w base s sls us) (hW : Below w.heap.size w W) {t : Sl} {l : List UInt8} (hr : RdB w t.a t.n l) (hno : t.a = none → t.c = 0) (hn : t.n < 150) (hb : ∀ b off sp, t.a = some ⟨b, off, sp⟩ → base ≤ b ∧ b < w.heap.size ∧ s.v.ownBlock ≠ some b) {a : Option Addr} {c : Nat}
    (ho : w'.ownsRow base 32 1 (.slice a (s.n + 1) c) (s.n + 1) (sls.map Sl.v ++ [t.v])) (hg : W.grownBy w' s.v.ownBlock) (hf : (Value.slice a (s.n + 1) c).ownBlock = s.v.ownBlock ∨ ∀ k, (Value.slice a (s.n + 1) c).ownBlock = some k → W.heap.size ≤ k) : OwnU w' base ⟨a, s.n + 1, c⟩ (sls ++ [t]) (us ++ [l]) := by
  have hc : Chg s.v.ownBlock.toList w w' := (Chg.of_below hW _).grown hg (fun k hk => .inl (by rw [hk]; simp))
  have key : ∀ (k : Nat) (sl : Sl) (m : List UInt8), (sls ++ [t])[k]? = some sl → (us ++ [l])[k]? = some m → RdB w sl.a sl.n m ∧ (sl.a = none → sl.c = 0) ∧ sl.n < 150 ∧ ∀ b off sp, sl.a = some ⟨b, off, sp⟩ → base ≤ b ∧ b < w.heap.size ∧ s.v.ownBlock ≠ some b := fun k sl m h1 h2 => by
    have hlv := h.len; have hlx := h.lu
    rcases Nat.lt_or_ge k sls.length with hk | hk
    · rw [List.getElem?_append_left hk] at h1
      rw [List.getElem?_append_left (by omega)] at h2
      exact h.rd k sl m h1 h2
    · rw [List.getElem?_append_right hk] at h1
      rw [List.getElem?_append_right (by omega), show us.length = sls.length by omega] at h2
      cases hd : k - sls.length with
      | zero =>
        rw [hd] at h1 h2
        simp only [List.getElem?_cons_zero, Option.some.injEq] at h1 h2
        rw [← h1, ← h2]
        exact ⟨hr, hno, hn, hb⟩
      | succ j => rw [hd] at h1; simp at h1
  refine ⟨by rw [List.map_append, List.map_cons, List.map_nil]; exact ho, by rw [List.length_append, h.lu]; rfl, fun k sl m h1 h2 => ?_⟩
  obtain ⟨k1, k2, k3, k4⟩ := key k sl m h1 h2
  refine ⟨hc.rdB k1 (fun b off sp e hm => (k4 b off sp e).2.2 (mem_own'.1 hm)), k2, k3, fun b off sp e => ⟨(k4 b off sp e).1, Nat.lt_of_lt_of_le (k4 b off sp e).2.1 hc.size, fun he => ?_⟩⟩
  rcases hf with h' | h'
  · exact (k4 b off sp e).2.2 (by rw [← h']; exact he)
  · have h3 := h' b he
    have h4 := hW.size
    have h5 := (k4 b off sp e).2.1
    omega
theorem OwnU.un (h : OwnU w base s sls us) : UnA w s.a s.n us := by
  refine ⟨h.lu, fun k hk => ?_⟩
  have h1 : sls[k]? = some (sls[k]'(by rw [h.len]; exact hk)) := List.getElem?_eq_getElem _
  have h2 : us[k]? = some (us[k]'(by rw [h.lu]; exact hk)) := List.getElem?_eq_getElem _
  obtain ⟨k1, k2, k3, k4⟩ := h.rd k _ _ h1 h2
  have h3 := RdC.of_own h.own
  rw [Nat.mul_one] at h3
  obtain ⟨b, off, ha, hc⟩ := h3.cell k hk
  exact ⟨b, off, _, _, _, _, ha, h2, hc k _ (by rw [List.getElem?_map, h1]; rfl), k1, k2, by omega⟩
theorem OwnU.unq (h : OwnU w base s sls us) : UnQ w (fun q => base ≤ q ∧ q < w.heap.size) s sls us := by
  have h3 := RdC.of_own h.own
  rw [Nat.mul_one] at h3
  refine ⟨h3, h.lu, (own_slice h.own).2.1, own_at h.own, fun k sl l h1 h2 => ?_⟩
  obtain ⟨k1, k2, k3, k4⟩ := h.rd k sl l h1 h2
  exact ⟨k1, k2, by omega, fun b off sp e => ⟨(k4 b off sp e).1, (k4 b off sp e).2.1⟩⟩
theorem OwnU.small (h : OwnU w base s sls us) : ∀ l ∈ us, l.length < 150 := fun l hl => by
  obtain ⟨k, hk⟩ := List.getElem?_of_mem hl
  have hlt := (List.getElem?_eq_some_iff.1 hk).1
  have h1 : sls[k]? = some (sls[k]'(by rw [h.len, ← h.lu]; exact hlt)) := List.getElem?_eq_getElem _
  obtain ⟨k1, k2, k3, k4⟩ := h.rd k _ _ h1 hk
  rw [k1.len]; exact k3
end
def stSlB (lo : Nat) : St Grow := ⟨fun v w => ∃ (a : Option Addr) (n c : Nat) (l : List UInt8), v = .slice a n c ∧ RdB w a n l ∧ (a = none → c = 0) ∧ n < 150 ∧ ∀ b off sp, a = some ⟨b, off, sp⟩ → lo ≤ b ∧ b < w.heap.size, fun v w w' h hg => let ⟨a, n, c, l, e, h1, h2, h3, h4⟩ := h; ⟨a, n, c, l, e, h1.below hg, h2, h3, fun b off sp e => ⟨(h4 b off sp e).1, Nat.lt_of_lt_of_le (h4 b off sp e).2 hg.size⟩⟩⟩
def stSlB1 (lo : Nat) : St Grow := ⟨fun v w => ∃ (q : Nat) (a : Option Addr) (n c : Nat) (l : List UInt8), v = .slice (some ⟨q, 0, none⟩) 1 1 ∧ w.heap[q]? = some (.cells #[.slice a n c] 32 (0, 0)) ∧ RdB w a n l ∧ (a = none → c = 0) ∧ n < 150 ∧ ∀ b off sp, a = some ⟨b, off, sp⟩ → lo ≤ b ∧ b < w.heap.size, fun v w w' h hg => let ⟨q, a, n, c, l, e, h0, h1, h2, h3, h4⟩ := h; ⟨q, a, n, c, l, e, (hg.block _ (block_lt h0)).trans h0, h1.below hg, h2, h3, fun b off sp e => ⟨(h4 b off sp e).1, Nat.lt_of_lt_of_le (h4 b off sp e).2 hg.size⟩⟩⟩
theorem usInfo : (Try.prog.info? 32).map (fun i => (i.zero, i.size, i.bytes)) = some (some (.slice none 0 0), 1, 24) := by kernel_rfl
/-- While they are made. -/
structure TxL (w : World) (bs : Nat) (x : StD) (y3 y4 : Value) (wr : World) : Prop where
  ex : ∃ (k : Nat) (oa : Option Addr) (oc : Nat) (sls : List Sl) (us : List (List UInt8)), y3 = .slice oa k oc ∧ y4 = .int .i64 (k : Int) ∧ k ≤ x.sn ∧ k ≤ 4 ∧ OwnU wr w.heap.size ⟨oa, k, oc⟩ sls us ∧ wr.heap[bs]? = some (.cells x.cells.toArray 45 (0, 0)) ∧ Below w.heap.size w wr ∧ (∀ q, (Sl.mk oa k oc).v.ownBlock = some q → bs < q)
/-- What texts answers. -/
def TxRes (w : World) (e : Ending) (w' : World) : Prop := ∃ (aU : Option Addr) (nU cU : Nat) (sls : List Sl) (us : List (List UInt8)), e = .returned (.slice aU nU cU) ∧ UnQ w' (fun q => w.heap.size ≤ q ∧ q < w'.heap.size) ⟨aU, nU, cU⟩ sls us ∧ nU ≤ 4 ∧ (∀ l ∈ us, l.length < 150) ∧ Below w.heap.size w w'
theorem texts_any (x : StD) (w : World) (hx : x.ok w) :
    Calls Try.prog 15 #[.agg x.cells.toArray] w (TxRes w) := by
  obtain ⟨i, hi, hz0, hz1, hz2⟩ := info_parts usInfo
  have HX := hid hx
  obtain ⟨bs, hbs⟩ : ∃ b, b = w.heap.size := ⟨_, rfl⟩
  have h1 := block_new w (.cells x.cells.toArray 45)
  have hb1 : Below w.heap.size w (w.alloc (.cells x.cells.toArray 45)) := (Below.refl _ _).alloc (Nat.le_refl _) _
  have HK0 : Hid (TxL w bs x (.slice none 0 0) (.int .i64 0) (w.alloc (.cells x.cells.toArray 45))) := ⟨0, none, 0, [], [], rfl, rfl, Nat.zero_le _, Nat.zero_le _, OwnU.nil _ _, by rw [hbs]; exact h1, hb1, fun q he => by cases he⟩
  have HBS := hid hbs
  clear hx h1 hb1
  go_enter Try.func15, Try.ntmps15
  go_upto_region 3 with (fail)
  rw [← hbs]
  clear hbs
  generalize w.alloc (.cells x.cells.toArray 45) = W at *
  go_loopw [3, 4] (fun y3 y4 wr => TxL w bs x y3 y4 wr) (fun _ y4 _ => 4 - (intOf y4).toNat)
  case atStart => exact HK0.out
  case round =>
    obtain ⟨k, oa, oc, sls, us, rfl, rfl, hkn, hk4, ho, hb, hbw, hap⟩ := hrel.ex
    clear hrel HK0
    have HO := hid ho; have HB := hid hb; have HBW := hid hbw; have HAP := hid hap
    clear ho hb hbw hap
    have hc2 : wr.cell? ⟨bs, 2, none⟩ = some (.slice x.sa x.sn x.sc) := cell_of_block (j := 2) HB.out rfl
    by_cases k1 : k < x.sn
    · have k1z : (k : Int) < (x.sn : Int) := by omega
      by_cases k4 : k < 4
      · have k4z : (k : Int) < 4 := by omega
        obtain ⟨bI, oI, z, hsa, hz, hzr, hcell⟩ := (HX.out.sizes.below HBW.out).row k k1
        have HCI := hid hcell
        have hlo := pick_lo z 150 (by omega)
        have hhi := pick_hi z 150 (by omega)
        obtain ⟨pk, hpk⟩ := Int.eq_ofNat_of_zero_le hlo
        have HPK := hid hpk
        have hpkl : pk < 150 := by omega
        obtain ⟨sd, hsd⟩ : ∃ y, IntKind.i64.wrap (x.n + (k : Int)) = y := ⟨_, rfl⟩
        have HSD := hid hsd
        have HZS := hid HBW.out.size
        clear hlo hhi hpk hsd hcell hz hzr
        rw [hsa] at hc2
        go_upto_region 5 with (fail)
        clear hc2
        refine wp_region_each 13 [.eq (.slice oa k oc), .eq (.pointer (some ⟨bs, 2, none⟩)), .eq (.slice (some ⟨bI, oI, none⟩) x.sn x.sc), .eq (.int .i64 (k : Int)), .eq (.pointer (some ⟨bI, oI + k, none⟩)), .eq (.int .i64 z), .eq (.int .i64 (pk : Int)), .eq (.pointer (some ⟨bs, 1, none⟩)), .eq (.int .i64 x.n), .eq (.int .i64 (k : Int)), .eq (.int .i64 sd), stSlB wr.heap.size, stSlB1 wr.heap.size] (by kernel_rfl) (by kernel_rfl) (by kernel_rfl) (by kernel_rfl) ?_ ?_
        · all_goals
            refine each_5 ?_ ?_ ?_ ?_ ?_ (each_5 ?_ ?_ ?_ ?_ ?_ (each_c ?_ (each_c ?_ (each_c ?_ (each_n)))))
            · intro w1 hg Ar seen
              have s3 := seen.sl 3 (.slice oa k oc)
              refine does_plain rfl fun K Q' hK => ?_
              go_simp; exact hK _ _ (Grow.refl _) rfl
            · intro w1 hg Ar seen
              have s1 := seen.sl 1 (.pointer (some ⟨bs, 0, none⟩))
              refine does_plain rfl fun K Q' hK => ?_
              go_simp; exact hK _ _ (Grow.refl _) rfl
            · intro w1 hg Ar seen
              have e1 := seen.de 1 17
              refine does_plain rfl fun K Q' hK => ?_
              have hc : w1.cell? ⟨bs, 2, none⟩ = some (.slice (some ⟨bI, oI, none⟩) x.sn x.sc) := by rw [← hsa]; exact cell_of_block (j := 2) ((hg.block _ (block_lt HB.out)).trans HB.out) rfl
              go_simp; exact hK _ _ (Grow.refl _) rfl
            · intro w1 hg Ar seen
              have s4 := seen.sl 4 (.int .i64 (k : Int))
              refine does_plain rfl fun K Q' hK => ?_
              go_simp; exact hK _ _ (Grow.refl _) rfl
            · intro w1 hg Ar seen
              have e2 := seen.de 2 18
              have e3 := seen.de 3 19
              refine does_plain rfl fun K Q' hK => ?_
              go_simp; exact hK _ _ (Grow.refl _) rfl
            · intro w1 hg Ar seen
              have e4 := seen.de 4 20
              refine does_plain rfl fun K Q' hK => ?_
              have hc := (Chg.of_below hg []).cell HCI.out (by simp)
              go_simp; exact hK _ _ (Grow.refl _) rfl
            · intro w1 hg Ar seen
              have e5 := seen.de 5 21
              refine does_plain rfl fun K Q' hK => ?_
              go_simp
              refine (pick_any z 150 _ (by omega) (by omega)).mono ?_
              rintro e u ⟨rfl, rfl⟩
              exact hK _ _ (Grow.refl _) (congrArg (Value.int .i64) HPK.out)
            · intro w1 hg Ar seen
              have s1 := seen.sl 1 (.pointer (some ⟨bs, 0, none⟩))
              refine does_plain rfl fun K Q' hK => ?_
              go_simp; exact hK _ _ (Grow.refl _) rfl
            · intro w1 hg Ar seen
              have e7 := seen.de 7 23
              refine does_plain rfl fun K Q' hK => ?_
              have hc : w1.cell? ⟨bs, 1, none⟩ = some (.int .i64 x.n) := cell_of_block (j := 1) ((hg.block _ (block_lt HB.out)).trans HB.out) rfl
              go_simp; exact hK _ _ (Grow.refl _) rfl
            · intro w1 hg Ar seen
              have s4 := seen.sl 4 (.int .i64 (k : Int))
              refine does_plain rfl fun K Q' hK => ?_
              go_simp; exact hK _ _ (Grow.refl _) rfl
            · intro w1 hg Ar seen
              have e8 := seen.de 8 24
              have e9 := seen.de 9 25
              refine does_plain rfl fun K Q' hK => ?_
              have hs := HSD.out
              go_simp; exact hK _ _ (Grow.refl _) rfl
            · intro w1 hg Ar seen
              have e6 := seen.de 6 22
              have e10 := seen.de 10 26
              refine does_plain rfl fun K Q' hK => ?_
              go_simp
              refine (bytes_any pk sd _ (by omega)).mono ?_
              rintro e u ⟨a2, c2, rfl, ho2, hb2⟩
              exact hK _ _ hb2 ⟨a2, pk, c2, _, rfl, RdB.of_own ho2, (own_slice ho2).2.1, hpkl, fun b off sp e => by have h3 := own_at ho2 b off sp e; have h4 := hg.size; omega⟩
            · intro w1 hg Ar seen
              obtain ⟨v11, e11, h11⟩ := seen.dp 11 27
              refine does_plain rfl fun K Q' hK => ?_
              obtain ⟨a2, n2, c2, l2, rfl, h3, h4, h5, h6⟩ := h11
              go_simp
              exact hK _ _ ((Below.refl _ _).alloc (Nat.le_refl _) _) ⟨_, a2, n2, c2, l2, rfl, block_new _ _, h3.below ((Below.refl _ _).alloc (Nat.le_refl _) _), h4, h5, fun b off sp e => by have h7 := h6 b off sp e; simp; omega⟩
        intro w1 hg
        refine upon_w' (js := [0, 1, 2, 3, 4, 5, 6, 7, 8, 9, 10, 11, 12]) (by rfl) ?_
        refine upon_e (some 16) (upon_e (some 17) (upon_e (some 18) (upon_e (some 19) (upon_e (some 20) (upon_e (some 21) (upon_e (some 22) (upon_e (some 23) (upon_e (some 24) (upon_e (some 25) (upon_e (some 26) (upon_v (some 27) fun v11 h11 => upon_v (some 28) fun v12 h12 => upon_n ?_)))))))))))
        obtain ⟨q, a2, n2, c2, l2, rfl, hq, hr2, hno2, hn2, hb2⟩ := h12
        have HQ := hid hq; have HR2 := hid hr2; have HNO2 := hid hno2; have HB2 := hid hb2
        have HG := hid hg
        have HO2 := hid (HO.out.below hg)
        have HBZ := hid ((hg.block _ (block_lt HB.out)).trans HB.out)
        have HBW2 := hid (HBW.out.trans (hg.mono HBW.out.size))
        have HOLT : Hid (∀ q, (Sl.mk oa k oc).v.ownBlock = some q → q < wr.heap.size) := fun q hq => (HO.out.own.lt q hq).2
        clear hq hr2 hno2 hb2 hg HO HB HBW h11
        try dsimp only
        go_simp
        have hwk : IntKind.i64.wrap ((k : Int) + 1) = ((k + 1 : Nat) : Int) := by rw [IntWalk.i64_in _ (by omega)]; omega
        go_upto_region 4 with (at_builtin; go_must (refine wpList_append_c rfl _ _ 23 rfl w.heap.size 32 i _ 1 24 Try.underlying23 hi hz0 hz1 hz2 rfl (by decide) (.slice oa k oc) k _ rfl HO2.out.own _ 1 _ [.slice a2 n2 c2] rfl (RdC.of_block1 HQ.out) (by intro u hu; rw [List.mem_singleton.1 hu]; rfl) (fun hx => by cases hx) (by unfold maxLen; omega) (by omega) HBW2.out.size ?_); intro a' c' w8 hown hgw hfr; have HOWN := hid hown; have HGRW := hid hgw; have HFRS := hid hfr; clear hown hgw hfr)
        have HO9 := hid (HO2.out.app (t := ⟨a2, n2, c2⟩) (Below.refl _ _) HR2.out HNO2.out hn2 (fun b off sp e => by
          have h3 := HB2.out b off sp e
          exact ⟨Nat.le_trans HZS.out h3.1, h3.2, fun he => by have := HOLT.out b he; omega⟩) HOWN.out HGRW.out HFRS.out)
        have hc8 : Chg (Sl.mk oa k oc).v.ownBlock.toList _ w8 := (Chg.refl _ _).grown HGRW.out (fun q hq => .inl (mem_own'.2 hq))
        have HB9 := hid ((hc8.block bs (block_lt HBZ.out) (fun hm => by have := HAP.out bs (mem_own'.1 hm); omega)).trans HBZ.out)
        have HBW9 : Hid (Below w.heap.size w w8) := HBW2.out.trans (hc8.below (fun q hq => by have := HAP.out q (mem_own'.1 hq); have := HBS.out; omega) HBW2.out.size)
        have HNQ : Hid (∀ q, (Sl.mk a' (k + 1) c').v.ownBlock = some q → bs < q) := fun q hq => by
          rcases HFRS.out with h' | h'
          · exact HAP.out q (by rw [← show _ = (Sl.mk oa k oc).v.ownBlock from h']; exact hq)
          · have h3 := h' q hq
            have h4 := block_lt HBZ.out
            omega
        clear hc8 HOWN HGRW HFRS
        go_wp2_with fail
        have HRR : TxL w bs x (.slice a' (k + 1) c') (.int .i64 ((k + 1 : Nat) : Int)) w8 := ⟨k + 1, a', c', _, _, rfl, rfl, by omega, by omega, HO9.out, HB9.out, HBW9.out, HNQ.out⟩
        go_roundw
        case rel => first | exact HRR | ((repeat apply Exists.intro); exact HRR) | ((repeat apply Exists.intro); exact ⟨HRR, rfl⟩)
        case measure => (simp [intOf] <;> omega)
      · have k4z : ¬ (k : Int) < 4 := by omega
        go_wp2_with fail
        go_ret
        exact ⟨oa, k, oc, sls, us, rfl, HO.out.unq, by omega, HO.out.small, HBW.out⟩
    · have k1z : ¬ (k : Int) < (x.sn : Int) := by omega
      go_wp2_with fail
      go_ret
      exact ⟨oa, k, oc, sls, us, rfl, HO.out.unq, by omega, HO.out.small, HBW.out⟩
end Go.Proofs.Ytclpkjjhphanpaa
