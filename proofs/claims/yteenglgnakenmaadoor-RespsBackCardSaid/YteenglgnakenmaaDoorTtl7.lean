/- What Decode makes of bytes; the reader's structure. -/
import Derived.Test.YteenglgnakenmaaDoorTtl6
import Derived.Test.YteenglgnakenmaaDoorTtlG
namespace Go.Proofs.YteenglgnakenmaaDoor
open Go.RowKit
set_option linter.unusedVariables false
set_option linter.unusedSimpArgs false
set_option maxRecDepth 100000
set_option maxHeartbeats 3200000
inductive DR where
  | err (e : Int)
  | ok (i : Itm) (r : List UInt8) (c : Nat)
inductive KR where
  | err (e : Int)
  | ok (k : List Itm) (c : Nat)
def kidsD (one : List UInt8 → Nat → DR) : Nat → List UInt8 → Nat → List Itm → KR
  | 0, _, c, acc => .ok acc c
  | g + 1, l, c, acc => if l.length = 0 then .ok acc c else match one l c with
    | .err e => .err e
    | .ok i r c' => kidsD one g r c' (acc ++ [i])
def hS (l : List UInt8) : PS := (l.take 8, false)
def tagA (l : List UInt8) : Int := (pI 1 (hS l)).1
def tagL (l : List UInt8) : Int := (pI 2 (pI 1 (hS l)).2).1
def tagD (l : List UInt8) : Int := tagA l * 65536 + tagL l
def typD (l : List UInt8) : Int := (pI 1 (pI 2 (pI 1 (hS l)).2).2).1
def lenD (l : List UInt8) : Int := (pI 4 (pI 1 (pI 2 (pI 1 (hS l)).2).2).2).1
inductive BR where
  | err (e : Int)
  | ok (n : Int) (d : List UInt8) (k : List Itm) (c : Nat)
/-- What stands in an item of a kind. -/
def bodyD (one : List UInt8 → Nat → DR) (k : Int) (b : List UInt8) (c : Nat) : BR :=
  if k = 1 then match kidsD one b.length b c [] with
    | .err e => .err e
    | .ok ks c' => .ok 0 [] ks c'
  else if isD k = true then (if datB k b = true then .ok 0 b [] c else .err 5)
  else if isS k = true then .ok (shortV k b) [] [] c
  else if numB k (pI 8 (b, false)).1 = true then .ok (pI 8 (b, false)).1 [] [] c else .err 5
/-- The first of the bytes from j on that is not there, or not 0. -/
def padE (b : List UInt8) : Nat → Nat → Option Int
  | 0, _ => none
  | g + 1, j => if b.length ≤ j then some 7 else if b.getD j 0 = 0 then padE b g (j + 1) else some 11
def decF : Nat → List UInt8 → Nat → DR
  | 0, l, c => if l.length < 8 then .err 7 else .err 10
  | f + 1, l, c =>
    if l.length < 8 then .err 7
    else if 600 < c + 1 ∨ tagB (tagD l) = false ∨ typD l < 1 ∨ 10 < typD l then .err 5
    else if ((l.drop 8).length : Int) < lenD l then .err 7
    else if ofB (typD l) (lenD l).toNat = false then .err 5
    else match bodyD (decF f) (typD l) ((l.drop 8).take (lenD l).toNat) (c + 1) with
      | .err e => .err e
      | .ok n d ks c' => match padE (l.drop 8) (up8 (lenD l).toNat - (lenD l).toNat) (lenD l).toNat with
        | some e => .err e
        | none => .ok ⟨tagD l, typD l, n, d, ks⟩ ((l.drop 8).drop (up8 (lenD l).toNat)) c'
theorem kidsD_le {one : List UInt8 → Nat → DR} (h1 : ∀ l c i r c', one l c = .ok i r c' → c < c' ∧ c' ≤ 600) : ∀ (g : Nat) (l : List UInt8) (c : Nat) (acc ks : List Itm) (c' : Nat), kidsD one g l c acc = .ok ks c' → c ≤ 600 → c ≤ c' ∧ c' ≤ 600 ∧ ks.length + c ≤ acc.length + c'
  | 0, l, c, acc, ks, c', h, hc => by
    simp only [kidsD, KR.ok.injEq] at h
    obtain ⟨rfl, rfl⟩ := h
    exact ⟨Nat.le_refl _, hc, Nat.le_refl _⟩
  | g + 1, l, c, acc, ks, c', h, hc => by
    rw [kidsD] at h
    split at h
    · simp only [KR.ok.injEq] at h
      obtain ⟨rfl, rfl⟩ := h
      exact ⟨Nat.le_refl _, hc, Nat.le_refl _⟩
    · cases h2 : one l c with
      | err e => rw [h2] at h; cases h
      | ok i r d =>
        rw [h2] at h
        have k1 := h1 l c i r d h2
        have k2 := kidsD_le h1 g r d (acc ++ [i]) ks c' h k1.2
        simp only [List.length_append, List.length_cons, List.length_nil] at k2
        omega
theorem bodyD_le {one : List UInt8 → Nat → DR} (h1 : ∀ l c i r c', one l c = .ok i r c' → c < c' ∧ c' ≤ 600) {k : Int} {b : List UInt8} {c : Nat} {n : Int} {d : List UInt8} {ks : List Itm} {c' : Nat} (h : bodyD one k b c = .ok n d ks c') (hc : c ≤ 600) : c ≤ c' ∧ c' ≤ 600 := by
  unfold bodyD at h
  split at h
  · cases h2 : kidsD one b.length b c [] with
    | err e => rw [h2] at h; cases h
    | ok ks2 c2 =>
      rw [h2] at h
      simp only [BR.ok.injEq] at h
      obtain ⟨_, _, _, rfl⟩ := h
      have := kidsD_le h1 _ _ _ _ _ _ h2 hc
      exact ⟨this.1, this.2.1⟩
  · split at h
    · split at h
      · simp only [BR.ok.injEq] at h
        obtain ⟨_, _, _, rfl⟩ := h
        exact ⟨Nat.le_refl _, hc⟩
      · cases h
    · split at h
      · simp only [BR.ok.injEq] at h
        obtain ⟨_, _, _, rfl⟩ := h
        exact ⟨Nat.le_refl _, hc⟩
      · split at h
        · simp only [BR.ok.injEq] at h
          obtain ⟨_, _, _, rfl⟩ := h
          exact ⟨Nat.le_refl _, hc⟩
        · cases h
theorem decF_le : ∀ (f : Nat) (l : List UInt8) (c : Nat) (i : Itm) (r : List UInt8) (c' : Nat), decF f l c = .ok i r c' → (c < c' ∧ c' ≤ 600) ∧ r.length + 8 ≤ l.length
  | 0, l, c, i, r, c', h => by
    rw [decF] at h
    split at h <;> cases h
  | f + 1, l, c, i, r, c', h => by
    rw [decF] at h
    split at h
    · cases h
    · rename_i h8
      split at h
      · cases h
      · rename_i hc
        split at h
        · cases h
        · split at h
          · cases h
          · cases h2 : bodyD (decF f) (typD l) ((l.drop 8).take (lenD l).toNat) (c + 1) with
            | err e => rw [h2] at h; cases h
            | ok n d ks c2 =>
              rw [h2] at h
              simp only at h
              cases h3 : padE (l.drop 8) (up8 (lenD l).toNat - (lenD l).toNat) (lenD l).toNat with
              | some e => rw [h3] at h; cases h
              | none =>
                rw [h3] at h
                simp only [DR.ok.injEq] at h
                obtain ⟨_, rfl, rfl⟩ := h
                have := bodyD_le (fun l c i r c' h => (decF_le f l c i r c' h).1) h2 (by omega)
                simp only [List.length_drop]
                omega
/-- What the reader's item answers. -/
def ItemRes (r : DR) (a : Option Addr) (p : Nat) (w : World) (e : Ending) (w' : World) : Prop :=
  Chg [p] w w' ∧ match r with
  | .err z => e = .returned (.tuple #[.agg itZ.arr, .slice none 0 0, .int .i64 z]) ∧ z ≠ 0
  | .ok i rest c' => ∃ (v : ItV) (a2 : Option Addr) (n2 c2 : Nat), e = .returned (.tuple #[.agg v.arr, .slice a2 n2 c2, .int .i64 0]) ∧ v.it = i ∧ v.ok w' ∧ (∀ k ∈ v.foot, w.heap.size ≤ k) ∧ GB w' a2 n2 c2 rest ∧
      (∀ q off sp, a2 = some ⟨q, off, sp⟩ → ∃ off' sp', a = some ⟨q, off', sp'⟩) ∧ w'.heap[p]? = some (.cells #[.int .i64 c'] 77 (0, 0))
/-- What the reader's structure answers. -/
def StrRes (r : KR) (p bi : Nat) (vi : ItV) (w : World) (e : Ending) (w' : World) : Prop :=
  Chg [p, bi] w w' ∧ match r with
  | .err z => e = .returned (.int .i64 z) ∧ z ≠ 0
  | .ok ks c' => e = .returned (.int .i64 0) ∧ ∃ (s : Sl) (l : List ItV), l.map ItV.it = ks ∧ w'.heap[bi]? = some (.cells (ItV.arr { vi with ks := s, kids := l }) 30 (0, 0)) ∧ SlR w' s 5 (itmCells l) ∧ (∀ x ∈ l, x.ok w') ∧ (∀ k ∈ s.blk, w.heap.size ≤ k) ∧ (∀ x ∈ l, ∀ k ∈ x.foot, w.heap.size ≤ k) ∧
      w'.heap[p]? = some (.cells #[.int .i64 c'] 77 (0, 0))
/-- While the kids are read. -/
structure StSt (w W : World) (p bi : Nat) (vi : ItV) (s : Sl) (l : List ItV) (c : Nat) : Prop where
  blk : W.heap[bi]? = some (.cells (ItV.arr { vi with ks := s, kids := l }) 30 (0, 0))
  cn : W.heap[p]? = some (.cells #[.int .i64 c] 77 (0, 0))
  own : OwnIt 30 W w.heap.size w.heap.size s l
  chg : Chg [p, bi] w W
  pl : p < w.heap.size
  bl : bi < w.heap.size
  pb : p ≠ bi
section
variable {w W W' : World} {p bi c c' : Nat} {vi kid : ItV} {s : Sl} {l : List ItV}
theorem StSt.below (h : StSt w W p bi vi s l c) (hb : Below W.heap.size W W') : StSt w W' p bi vi s l c :=
  ⟨(hb.block _ (block_lt h.blk)).trans h.blk, (hb.block _ (block_lt h.cn)).trans h.cn, h.own.below hb, h.chg.trans (Chg.of_below hb []) (fun _ hm => by cases hm), h.pl, h.bl, h.pb⟩
theorem StSt.turn (h : StSt w W p bi vi s l c) (hc : Chg [p] W W') (hn : W'.heap[p]? = some (.cells #[.int .i64 c'] 77 (0, 0))) : StSt w W' p bi vi s l c' :=
  ⟨(hc.block _ (block_lt h.blk) (by have := h.pb; simp; omega)).trans h.blk, hn, h.own.chg hc (fun k hk hm => by have h1 := (h.own.own.lt k hk).1; have h2 := List.mem_singleton.1 hm; have := h.pl; omega) (fun x hx k hk hm => by have h1 := h.own.low x hx k hk; have h2 := List.mem_singleton.1 hm; have := h.pl; omega),
    h.chg.trans hc (fun k hk => .inl (by rw [List.mem_singleton.1 hk]; simp)), h.pl, h.bl, h.pb⟩
theorem StSt.push (h : StSt w W p bi vi s l c) (hk0 : kid.ok W) (hk1 : ∀ k ∈ kid.foot, w.heap.size ≤ k) (hk2 : ∀ k ∈ kid.foot, s.v.ownBlock ≠ some k) (hc : Chg (bi :: s.v.ownBlock.toList) W W') {a : Option Addr} {n cc : Nat}
    (hb : W'.heap[bi]? = some (.cells (ItV.arr { vi with ks := ⟨a, n, cc⟩, kids := l ++ [kid] }) 30 (0, 0))) (ho : W'.ownsRow w.heap.size 30 5 (.slice a n cc) n (itmCells (l ++ [kid]))) (hf : (Value.slice a n cc).ownBlock = s.v.ownBlock ∨ ∀ k, (Value.slice a n cc).ownBlock = some k → W.heap.size ≤ k) :
    StSt w W' p bi vi ⟨a, n, cc⟩ (l ++ [kid]) c := by
  have hmem : ∀ k ∈ s.v.ownBlock.toList, s.v.ownBlock = some k := fun k hk => by
    cases hv : s.v.ownBlock with
    | none => rw [hv] at hk; cases hk
    | some y => rw [hv] at hk; simp at hk; rw [hk]
  have hall : ∀ x ∈ l ++ [kid], x.ok W ∧ (∀ k ∈ x.foot, w.heap.size ≤ k) ∧ ∀ k ∈ x.foot, s.v.ownBlock ≠ some k := fun x hx => by
    rcases List.mem_append.1 hx with h' | h'
    · exact ⟨h.own.ok x h', h.own.low x h', h.own.apart x h'⟩
    · rw [List.mem_singleton.1 h']; exact ⟨hk0, hk1, hk2⟩
  have hpn : p ∉ bi :: s.v.ownBlock.toList := fun hm => by
    rcases List.mem_cons.1 hm with h' | h'
    · exact h.pb h'
    · have := (h.own.own.lt p (hmem p h')).1; have := h.pl; omega
  refine ⟨hb, (hc.block _ (block_lt h.cn) hpn).trans h.cn, ⟨ho, fun x hx => ?_, fun x hx k hk he => ?_, fun x hx => (hall x hx).2.1⟩, ?_, h.pl, h.bl, h.pb⟩
  · refine ItV.ok.keep hc (hall x hx).1 (fun k hk hm => ?_)
    rcases List.mem_cons.1 hm with h' | h'
    · have := (hall x hx).2.1 k hk; have := h.bl; omega
    · exact (hall x hx).2.2 k hk (hmem k h')
  · rcases hf with h' | h'
    · exact (hall x hx).2.2 k hk (by rw [← h']; exact he)
    · have h1 := h' k he
      have h2 := (hall x hx).1.lt k hk
      omega
  · exact h.chg.trans hc (fun k hk => by
      rcases List.mem_cons.1 hk with h' | h'
      · exact .inl (by rw [h']; simp)
      · exact .inr (h.own.own.lt k (hmem k h')).1)
end
/-- Blocks that change are none of the tables. -/
theorem UT.keepG {w w' : World} {G : List Nat} (h : UT w) (hc : Chg G w w') (hp : ∀ q ∈ G, q ≠ 0 ∧ q ≠ 1) : UT w' :=
  ⟨fun c hl => hc.cell (h.1 c hl) (fun hm => (hp _ hm).1 rfl), fun i hi => ⟨hc.cell (h.2 i hi).1 (fun hm => (hp _ hm).2 rfl), hc.cell (h.2 i hi).2 (fun hm => (hp _ hm).2 rfl)⟩⟩
/-- What the loop over the kids knows. -/
structure KdSt (one : List UInt8 → Nat → DR) (R0 : KR) (w : World) (p bi : Nat) (vi : ItV) (y : Value) (wr : World) : Prop where
  ex : ∃ (a : Option Addr) (n c : Nat) (l : List UInt8) (s : Sl) (acc : List ItV) (cnt g : Nat), y = .slice a n c ∧ GB wr a n c l ∧ (∀ q off sp, a = some ⟨q, off, sp⟩ → q < w.heap.size ∧ q ≠ p ∧ q ≠ bi) ∧ StSt w wr p bi vi s acc cnt ∧ acc.length ≤ cnt ∧ cnt ≤ 600 ∧ l.length ≤ g ∧ kidsD one g l cnt (acc.map ItV.it) = R0
theorem KR_ok {ks ks' : List Itm} {c c' : Nat} (h : KR.ok ks c = KR.ok ks' c') : ks = ks' ∧ c = c' := by simpa using h
theorem structure_any (f : Nat) (dz : Int) (hdz : 1 ≤ dz ∧ dz ≤ 100)
    (ih : ∀ (a : Option Addr) (n c : Nat) (l : List UInt8) (cnt p : Nat) (w : World), GB w a n c l → Off a [p] → w.heap[p]? = some (.cells #[.int .i64 cnt] 77 (0, 0)) → cnt ≤ 600 → UT w → Calls Tryd.prog 30 #[.pointer (some ⟨p, 0, none⟩), .slice a n c, .int .i64 (dz + 1)] w (ItemRes (decF f l cnt) a p w))
    (p bi : Nat) (vi : ItV) (a : Option Addr) (n c : Nat) (l : List UInt8) (cnt : Nat) (w : World) (hi : w.heap[bi]? = some (.cells vi.arr 30 (0, 0))) (hk : vi.ks = {} ∧ vi.kids = []) (hn : w.heap[p]? = some (.cells #[.int .i64 cnt] 77 (0, 0))) (hpb : p ≠ bi)
    (hg : GB w a n c l) (ho : Off a [p, bi]) (hc6 : cnt ≤ 600) (hT : UT w) :
    Calls Tryd.prog 60 #[.pointer (some ⟨p, 0, none⟩), .pointer (some ⟨bi, 0, none⟩), .slice a n c, .int .i64 dz] w (StrRes (kidsD (decF f) l.length l cnt []) p bi vi w) := by
  have IH := hid ih
  have HT := hid hT
  have HAP : Hid (∀ q ∈ [p, bi], q ≠ 0 ∧ q ≠ 1) := fun q hq => by
    rcases List.mem_cons.1 hq with h | h
    · rw [h]; exact hT.apart hn (by show (1 : Nat) < 32; decide)
    · rw [List.mem_singleton.1 h]; exact hT.apart hi (by show (5 : Nat) < 32; decide)
  have HDZ : Hid (IntKind.i64.wrap (dz + 1) = dz + 1) := IntWalk.i64_in _ (by omega)
  generalize hR : kidsD (decF f) l.length l cnt [] = R0
  have hK0 : KdSt (decF f) R0 w p bi vi (.slice a n c) w := by
    refine ⟨a, n, c, l, {}, [], cnt, l.length, rfl, hg, fun q off sp e => ⟨hg.lt q off sp e, fun h => ho q off sp e (by rw [h]; simp), fun h => ho q off sp e (by rw [h]; simp)⟩, ⟨?_, hn, OwnIt.nil _ _ _ _, Chg.refl _ _, block_lt hn, block_lt hi, hpb⟩, Nat.zero_le _, hc6, Nat.le_refl _, hR⟩
    rw [hi]
    cases vi
    obtain ⟨h1, h2⟩ := hk
    subst h1; subst h2
    rfl
  have HK0 := hid hK0
  clear ih hT hi hk hn hg ho hR hK0 hc6 hdz
  go_enter Tryd.func60, Tryd.ntmps60
  go_wp2_with fail
  go_loopw [2] (fun y wr => KdSt (decF f) R0 w p bi vi y wr) (fun y _ => lenOf y)
  case atStart => exact HK0.out
  case round =>
    obtain ⟨a2, n2, c2, l2, s, acc, cnt2, g2, rfl, hg2, hlow, hs, hac, hc2, hgl, hrun⟩ := hrel.ex
    clear hrel
    have S := hid hs; have HG := hid hg2; have HLW := hid hlow; have HAC := hid hac; have HC2 := hid hc2; have HGL := hid hgl; have HRUN := hid hrun
    clear hs hg2 hlow hac hc2 hgl hrun
    have HLN := hid HG.out.rd.len
    by_cases h0 : n2 = 0
    · subst h0
      go_wp2_with fail
      go_ret
      have hl : l2.length = 0 := HLN.out
      have hrun := HRUN.out
      have hR : R0 = .ok (acc.map ItV.it) cnt2 := by
        rw [← hrun]
        cases g2 with
        | zero => rfl
        | succ g => rw [kidsD, if_pos hl]
      subst hR
      have hacc := HAC.out; have hcc := HC2.out
      refine ⟨S.out.chg, rfl, s, acc, rfl, S.out.blk, S.out.own.sl (by rw [← S.out.own.len]; omega), S.out.own.ok, S.out.own.blk, S.out.own.low, S.out.cn⟩
    · have hpos : (0 : Int) < (n2 : Int) := by omega
      have hne : l2.length ≠ 0 := by have := HLN.out; omega
      obtain ⟨g3, rfl⟩ : ∃ g3, g2 = g3 + 1 := ⟨g2 - 1, by have := HGL.out; omega⟩
      have HNE := hid hne
      clear hne
      have HT2 : Hid (UT wr) := HT.out.keepG S.out.chg HAP.out
      have hwd := HDZ.out
      go_wp2_with fail
      refine (IH.out a2 n2 c2 l2 cnt2 p wr HG.out (fun q off sp e hm => (HLW.out q off sp e).2.1 (List.mem_singleton.1 hm)) S.out.cn HC2.out HT2.out).mono ?_
      intro e w3 hres
      unfold ItemRes at hres
      obtain ⟨hch, hres⟩ := hres
      have hrun := HRUN.out
      rw [kidsD, if_neg HNE.out] at hrun
      cases hd : decF f l2 cnt2 with
      | err z =>
        rw [hd] at hres hrun
        simp only at hrun
        obtain ⟨rfl, hz⟩ := hres
        subst hrun
        dsimp only
        have HCH := hid (S.out.chg.trans hch (fun k hk => .inl (by rw [List.mem_singleton.1 hk]; simp)))
        have hzz : (z != 0) = true := by simpa using hz
        have HZ := hid hz
        clear hch hd hz hwd
        go_wp2_with (first | (refine wpList_alloc_obj rfl 30 rfl _ iZero ?_) | (refine wpList_store_obj rfl 30 _ _ rfl w3.heap.size rfl _ rfl _ _ (block_new w3 _) rfl iSize (arr_one itZ) ?_; intro w5 hb5 hc5 hs5; have KB := hid hb5; have HC5 := hid hc5; clear hb5 hc5 hs5))
        go_ret
        refine ⟨?_, rfl, HZ.out⟩
        have h1 : Below w3.heap.size w3 w5 := ((Below.refl _ w3).alloc (Nat.le_refl _) _).trans (HC5.out.below (fun k hk => by rw [List.mem_singleton.1 hk]; exact Nat.le_refl _) (by simp))
        exact HCH.out.trans (Chg.of_below h1 [p, bi]) (fun k hk => .inl hk)
      | ok x r c3 =>
        rw [hd] at hres hrun
        simp only at hrun
        obtain ⟨v, a4, n4, c4, rfl, hvi, hvok, hvf, hg4, hof, hcn⟩ := hres
        dsimp only
        have HD := hid (decF_le f l2 cnt2 x r c3 hd)
        have HVF := hid hvf
        have S3 := hid (S.out.turn hch hcn)
        have HSZ := hid hch.size
        have HOLD : Hid (∀ q, s.v.ownBlock = some q → q < wr.heap.size) := fun q hq => (S.out.own.own.lt q hq).2
        have HWS := hid S.out.chg.size
        have HRUN3 := hid hrun; have HVI := hid hvi; have HVO := hid hvok; have HG4 := hid hg4
        have HLW4 : Hid (∀ q off sp, a4 = some ⟨q, off, sp⟩ → q < w.heap.size ∧ q ≠ p ∧ q ≠ bi) := fun q off sp e => by
          obtain ⟨off', sp', e'⟩ := hof q off sp e
          exact HLW.out q off' sp' e'
        have HGL2 : Hid (r.length ≤ g3 ∧ n4 < n2) := by have h1 := HD.out.2; have h2 := HGL.out; have h3 := hg4.rd.len; have h4 := HLN.out; exact ⟨by omega, by omega⟩
        clear hch hd hrun hvi hvok hvf hg4 hof hcn S HG HLW HRUN hwd HT2 HGL HNE HLN
        go_wp2_with (first | (refine wpList_alloc_obj rfl 30 rfl _ iZero ?_) | (refine wpList_store_obj rfl 30 _ _ rfl w3.heap.size rfl _ rfl _ _ (block_new w3 _) rfl iSize (arr_one v) ?_; intro w5 hb5 hc5 hs5; have KB := hid hb5; have HC5 := hid hc5; clear hb5 hc5 hs5))
        have hbel : Below w3.heap.size w3 w5 := ((Below.refl _ w3).alloc (Nat.le_refl _) _).trans (HC5.out.below (fun k hk => by rw [List.mem_singleton.1 hk]; exact Nat.le_refl _) (by simp))
        have S5 := hid (S3.out.below hbel)
        have HV5 := hid (HVO.out.below hbel)
        have HG5 := hid (HG4.out.below hbel)
        have HZ5 := hid hbel.size
        clear hbel HC5 S3 HVO HG4
        generalize w3.heap.size = kb at *
        obtain ⟨i, hi, hz0, hz1, hz2⟩ := info_parts iInfo
        refine wp_region_eachA 7 #[true, true, true, true, true, true, true, false, false, false, false, false, false] [.eq (.pointer (some ⟨bi, 0, none⟩)), .eq (.pointer (some ⟨bi, 0, none⟩)), .eq (.pointer (some ⟨bi, 4, none⟩)), .eq (.slice s.a s.n s.c), .eq (.agg v.arr), .eq (.int .i64 (s.n : Int)), stZero 30] (by kernel_rfl) (by kernel_rfl) (by kernel_rfl) (by kernel_rfl) (by kernel_rfl) ?_ ?_
        · all_goals
            refine each_5 ?_ ?_ ?_ ?_ ?_ (each_c ?_ (each_c ?_ (each_n)))
            · intro w1 hg Ar seen
              have s1 := seen.sl 1 (.pointer (some ⟨bi, 0, none⟩))
              refine does_plain rfl fun K Q' hK => ?_
              go_simp; exact hK _ _ (Grow.refl _) rfl
            · intro w1 hg Ar seen
              have e0 := seen.de 0 27
              refine does_plain rfl fun K Q' hK => ?_
              go_simp; exact hK _ _ (Grow.refl _) rfl
            · intro w1 hg Ar seen
              have e1 := seen.de 1 28
              refine does_plain rfl fun K Q' hK => ?_
              go_simp; exact hK _ _ (Grow.refl _) rfl
            · intro w1 hg Ar seen
              have e2 := seen.de 2 29
              refine does_plain rfl fun K Q' hK => ?_
              have hc := cell_of_block (j := 4) ((hg.block _ (block_lt S5.out.blk)).trans S5.out.blk) (ar4 _)
              go_simp; exact hK _ _ (Grow.refl _) rfl
            · intro w1 hg Ar seen
              have s9 := seen.sl 9 (.pointer (some ⟨kb, 0, none⟩))
              refine does_plain rfl fun K Q' hK => ?_
              refine wp_load_row 30 _ rfl kb (by simp [Act.eval, s9]) _ _ _ _ ((hg.block _ (block_lt KB.out)).trans KB.out) Tryd.underlying30 rfl iSize ?_
              exact hK _ _ (Grow.refl _) rfl
            · intro w1 hg Ar seen
              have e3 := seen.de 3 30
              refine does_plain rfl fun K Q' hK => ?_
              go_simp; exact hK _ _ (Grow.refl _) rfl
            · intro w1 hg Ar seen
              refine does_plain rfl fun K Q' hK => ?_
              refine wp_build_item _ 30 _ rfl itZ rfl i Tryd.underlying28 hi hz0 hz1 ?_
              exact hK _ _ ((Below.refl _ _).alloc (Nat.le_refl _) _) ⟨_, rfl, block_new _ _⟩
        intro w1 hg
        refine upon_w' (js := [0, 1, 2, 3, 4, 5, 6]) (by rfl) ?_
        refine upon_e (some 27) (upon_e (some 28) (upon_e (some 29) (upon_e (some 30) (upon_e (some 31) (upon_e (some 32) (upon_v (some 33) fun v6 h6 => upon_n ?_))))))
        go_simp
        obtain ⟨q6, rfl, hq6⟩ := h6
        have HPB := hid hq6
        have S6 := hid (S5.out.below hg)
        have HV6 := hid (HV5.out.below hg)
        have HG6 := hid (HG5.out.below hg)
        have HZ6 := hid hg.size
        clear hq6 hg S5 HV5 HG5 KB
        go_simp
        refine wpAny_ready (rs := [7]) (by kernel_rfl) (by simp) ?_
        refine AllReady.cons rfl (fun K hK => ?_) AllReady.nil
        refine step_append_c rfl _ _ 28 rfl w.heap.size 30 i _ 5 72 Tryd.underlying28 hi hz0 hz1 hz2 rfl (by decide) (.slice s.a s.n s.c) s.n _ rfl S6.out.own.own _ 1 _ itZ.arr.toList rfl (RdC.of_block HPB.out) (by have := itm_one [itZ]; simpa [itmCells, ItV.cells] using this) (fun hx => by cases hx) (by have := S6.out.own.len; have := HAC.out; have := HC2.out; unfold maxLen; omega) (by have := S6.out.own.len; have := HAC.out; have := HC2.out; omega) (by have := HWS.out; have := HSZ.out; have := HZ5.out; have := HZ6.out; omega) ?_
        intro a' c' w7 hown hgw hfr
        obtain ⟨g, rfl, hgb, hgl⟩ := (own_slice hown).2.2 (by omega)
        have HO7 := hid hown
        have HF7 := hid hfr
        have HC7 : Hid (Chg s.v.ownBlock.toList w1 w7) := (Chg.refl _ w1).grown hgw (fun k hk => .inl (by rw [hk]; simp))
        have HGP : Hid (w.heap.size ≤ g) := by
          rcases hfr with h' | h'
          · exact (S6.out.own.own.lt g (by rw [← h']; rfl)).1
          · have := h' g rfl
            have := HWS.out; have := HSZ.out; have := HZ5.out; have := HZ6.out
            show _ ≤ _; omega
        have HGB : Hid (g ≠ bi) := by have := HGP.out; have := S6.out.bl; show g ≠ bi; omega
        clear hown hgw hfr hgb hgl
        refine hK _ _ ?_
        clear hK K
        go_simp
        refine wpAny_take (i := 8) (v := .pointer (some ⟨g, s.n * 5, none⟩)) rfl (by kernel_rfl) (by kernel_rfl) (by kernel_rfl) (fun _ _ _ h => h) (Or.inl ⟨by rfl, by intro w; go_simp; try (intro hx; exfalso; omega)⟩) ?_
        refine wpAny_take (i := 10) (v := .pointer (some ⟨bi, 0, none⟩)) rfl (by kernel_rfl) (by kernel_rfl) (by kernel_rfl) (fun _ _ _ h => h) (Or.inl ⟨by rfl, by intro w; go_simp; try rfl⟩) ?_
        refine wpAny_take (i := 11) (v := .pointer (some ⟨bi, 4, none⟩)) rfl (by kernel_rfl) (by kernel_rfl) (by kernel_rfl) (fun _ _ _ h => h) (Or.inl ⟨by rfl, by intro w; go_simp; try rfl⟩) ?_
        have HCM : Hid (Chg (bi :: s.v.ownBlock.toList) w1 w7) := HC7.out.mono (fun q hq => List.mem_cons_of_mem _ hq)
        have HFR : Hid (Fresh (bi :: s.v.ownBlock.toList) [g] w1) := fun q hq => by
          rw [List.mem_singleton.1 hq]
          rcases HF7.out with h' | h'
          · left; exact List.mem_cons_of_mem _ (by rw [← show _ = s.v.ownBlock from h']; simp [Value.ownBlock])
          · right; exact h' g rfl
        have HP7 : Hid (w7.heap[bi]? = some (.cells (ItV.arr { vi with ks := s, kids := acc }) 30 (0, 0))) := (HC7.out.block bi (block_lt S6.out.blk) (fun hm => by
          cases hv : s.v.ownBlock with
          | none => rw [hv] at hm; cases hm
          | some y => rw [hv] at hm; simp at hm; have := (S6.out.own.own.lt y hv).1; have := S6.out.bl; omega)).trans S6.out.blk
        have HXL : Hid ((itmCells acc).length = s.n * 5) := by show _ = _; rw [itm_len, S6.out.own.len]
        have HAPP : Hid (itmCells (acc ++ [v]) = itmCells acc ++ v.cells) := by show _ = _; rw [itm_app]; simp [itmCells]
        have FINH : Hid (∀ w9, Chg (bi :: s.v.ownBlock.toList) w1 w9 → w9.heap[bi]? = some (.cells (ItV.arr { vi with ks := ⟨some ⟨g, 0, none⟩, s.n + 1, c'⟩, kids := acc ++ [v] }) 30 (0, 0)) → w9.ownsRow w.heap.size 30 5 (.slice (some ⟨g, 0, none⟩) (s.n + 1) c') (s.n + 1) (itmCells (acc ++ [v])) →
            KdSt (decF f) R0 w p bi vi (.slice a4 n4 c4) w9) := fun w9 h1 h2 h3 => by
          have hd := HD.out; have hac := HAC.out; have hc2 := HC2.out
          have hWS := HWS.out
          refine ⟨a4, n4, c4, r, ⟨some ⟨g, 0, none⟩, s.n + 1, c'⟩, acc ++ [v], c3, g3, rfl, HG6.out.keep h1 (fun q off sp e hm => ?_), HLW4.out, S6.out.push HV6.out (fun k hk => Nat.le_trans hWS (HVF.out k hk)) (fun k hk he => ?_) h1 h2 h3 HF7.out, ?_, hd.1.2, ?_, ?_⟩
          · have h4 := HLW4.out q off sp e
            rcases List.mem_cons.1 hm with h' | h'
            · exact h4.2.2 h'
            · have h5 := S6.out.own.ahead h4.1
              exact h5 h'
          · have h5 := HOLD.out k he
            have h6 := HVF.out k hk
            omega
          · simp only [List.length_append, List.length_cons, List.length_nil]; omega
          · exact HGL2.out.1
          · rw [List.map_append, List.map_cons, List.map_nil, HVI.out]; exact HRUN3.out
        clear HD HVF HAC HC2 HOLD HWS HRUN3 HVI HLW4 HG6
        refine wpAny_ready (rs := [9, 12]) (by kernel_rfl) (by simp) ?_
        refine AllReady.cons rfl (fun K hK => ?_) (AllReady.cons rfl (fun K hK => ?_) AllReady.nil)
        · first | rw [if_pos (by rfl)] | skip
          refine wp_store_item 30 _ _ rfl g (s.n * 5) rfl v rfl HO7.out rfl HXL.out rfl iSize (arr_one v) ?_
          intro w8 hown8 hc8 hs8
          have HO8 := hid hown8; have HC8 := hid hc8
          have HP8 : Hid (w8.heap[bi]? = some (.cells (ItV.arr { vi with ks := s, kids := acc }) 30 (0, 0))) := (hc8.block bi (block_lt HP7.out) (fun hm => HGB.out (List.mem_singleton.1 hm).symm)).trans HP7.out
          have hco := cell_of_block (j := 4) HP8.out (ar4 _)
          have hfz : ∀ j, w8.frozen? ⟨bi, j, none⟩ = false := fun j => frozen_of_block HP8.out
          clear hown8 hc8 hs8
          refine hK _ _ ?_
          clear hK K
          refine wpAny_ready (rs := [12]) (by kernel_rfl) (by simp) ?_
          refine AllReady.cons rfl (fun K hK => ?_) AllReady.nil
          go_simp
          refine hK _ _ ?_
          clear hK K hco hfz
          refine wpAny_done (by kernel_rfl) ?_ _
          have hset : Chg [bi] w8 (w8.setCell ⟨bi, 4, none⟩ (.slice (some ⟨g, 0, none⟩) (s.n + 1) c')) := (Chg.refl [bi] w8).setCell (.inl (by simp)) _
          have H9 := hid (FINH.out _ ((HCM.out.trans HC8.out HFR.out).trans hset (fun q hq => by rw [List.mem_singleton.1 hq]; exact .inl (by simp))) (block_setCell (j := 4) HP8.out _)
            (by rw [HAPP.out]; exact hset.owns HO8.out (fun q hq hm => by have hq2 : some g = some q := hq; cases hq2; exact HGB.out (List.mem_singleton.1 hm))))
          clear hset
          go_wp2_with fail
          have HRR := H9.out
          go_roundw
          case rel => first | exact HRR | ((repeat apply Exists.intro); exact HRR) | ((repeat apply Exists.intro); exact ⟨HRR, rfl⟩)
          case measure => (have := HGL2.out.2; simp [lenOf] <;> omega)
        · have hco := cell_of_block (j := 4) HP7.out (ar4 _)
          have hfz : ∀ j, w7.frozen? ⟨bi, j, none⟩ = false := fun j => frozen_of_block HP7.out
          go_simp
          refine hK _ _ ?_
          clear hK K hco hfz
          have hset : Chg [bi] w7 (w7.setCell ⟨bi, 4, none⟩ (.slice (some ⟨g, 0, none⟩) (s.n + 1) c')) := (Chg.refl [bi] w7).setCell (.inl (by simp)) _
          have HO8 := hid (hset.owns HO7.out (fun q hq hm => by have hq2 : some g = some q := hq; cases hq2; exact HGB.out (List.mem_singleton.1 hm)))
          have HP8 : Hid ((w7.setCell ⟨bi, 4, none⟩ (.slice (some ⟨g, 0, none⟩) (s.n + 1) c')).heap[bi]? = some (.cells (ItV.arr { vi with ks := ⟨some ⟨g, 0, none⟩, s.n + 1, c'⟩, kids := acc ++ [v] }) 30 (0, 0))) := block_setCell (j := 4) HP7.out _
          have HCS := hid (HCM.out.trans hset (fun q hq => by rw [List.mem_singleton.1 hq]; exact .inl (by simp)))
          clear hset
          generalize w7.setCell ⟨bi, 4, none⟩ (.slice (some ⟨g, 0, none⟩) (s.n + 1) c') = w8 at *
          refine wpAny_ready (rs := [9]) (by kernel_rfl) (by simp) ?_
          refine AllReady.cons rfl (fun K hK => ?_) AllReady.nil
          first | rw [if_pos (by rfl)] | skip
          refine wp_store_item 30 _ _ rfl g (s.n * 5) rfl v rfl HO8.out rfl HXL.out rfl iSize (arr_one v) ?_
          intro w9 hown9 hc9 hs9
          refine hK _ _ ?_
          clear hK K
          refine wpAny_done (by kernel_rfl) ?_ _
          have H9 := hid (FINH.out w9 (HCS.out.trans hc9 HFR.out) ((hc9.block bi (block_lt HP8.out) (fun hm => HGB.out (List.mem_singleton.1 hm).symm)).trans HP8.out) (by rw [HAPP.out]; exact hown9))
          clear hown9 hc9 hs9
          go_wp2_with fail
          have HRR := H9.out
          go_roundw
          case rel => first | exact HRR | ((repeat apply Exists.intro); exact HRR) | ((repeat apply Exists.intro); exact ⟨HRR, rfl⟩)
          case measure => (have := HGL2.out.2; simp [lenOf] <;> omega)
end Go.Proofs.YteenglgnakenmaaDoor
