/- The reference's decoder: an item. -/
import Derived.Test.YtmpajhacigjloaaDoorTtlP
namespace Go.Proofs.YtmpajhacigjloaaDoor
open Go.RowKit
set_option linter.unusedVariables false
set_option linter.unusedSimpArgs false
set_option maxRecDepth 100000
set_option maxHeartbeats 25600000
/-- While the reference reads kids. -/
structure RkSt (w W : World) (p bi : Nat) (vi : ItV) (s : Sl) (l : List ItV) (c : Nat) : Prop where
  blk : W.heap[bi]? = some (.cells (ItV.arr { vi with ks := s, kids := l }) 29 (0, 0))
  cn : W.heap[p]? = some (.cells #[.int .i64 c] 77 (0, 0))
  own : OwnIt 29 W w.heap.size w.heap.size s l
  chg : Chg [p, bi] w W
  pl : p < w.heap.size
  bl : bi < w.heap.size
  pb : p ≠ bi
section
variable {w W W' : World} {p bi c c' : Nat} {vi kid : ItV} {s : Sl} {l : List ItV}
theorem RkSt.below (h : RkSt w W p bi vi s l c) (hb : Below W.heap.size W W') : RkSt w W' p bi vi s l c :=
  ⟨(hb.block _ (block_lt h.blk)).trans h.blk, (hb.block _ (block_lt h.cn)).trans h.cn, h.own.below hb, h.chg.trans (Chg.of_below hb []) (fun _ hm => by cases hm), h.pl, h.bl, h.pb⟩
theorem RkSt.turn (h : RkSt w W p bi vi s l c) (hc : Chg [p] W W') (hn : W'.heap[p]? = some (.cells #[.int .i64 c'] 77 (0, 0))) : RkSt w W' p bi vi s l c' :=
  ⟨(hc.block _ (block_lt h.blk) (by have := h.pb; simp; omega)).trans h.blk, hn, h.own.chg hc (fun k hk hm => by have h1 := (h.own.own.lt k hk).1; have h2 := List.mem_singleton.1 hm; have := h.pl; omega) (fun x hx k hk hm => by have h1 := h.own.low x hx k hk; have h2 := List.mem_singleton.1 hm; have := h.pl; omega),
    h.chg.trans hc (fun k hk => .inl (by rw [List.mem_singleton.1 hk]; simp)), h.pl, h.bl, h.pb⟩
theorem RkSt.push (h : RkSt w W p bi vi s l c) (hk0 : kid.ok W) (hk1 : ∀ k ∈ kid.foot, w.heap.size ≤ k) (hk2 : ∀ k ∈ kid.foot, s.v.ownBlock ≠ some k) (hc : Chg (bi :: s.v.ownBlock.toList) W W') {a : Option Addr} {n cc : Nat}
    (hb : W'.heap[bi]? = some (.cells (ItV.arr { vi with ks := ⟨a, n, cc⟩, kids := l ++ [kid] }) 29 (0, 0))) (ho : W'.ownsRow w.heap.size 29 5 (.slice a n cc) n (itmCells (l ++ [kid]))) (hf : (Value.slice a n cc).ownBlock = s.v.ownBlock ∨ ∀ k, (Value.slice a n cc).ownBlock = some k → W.heap.size ≤ k) :
    RkSt w W' p bi vi ⟨a, n, cc⟩ (l ++ [kid]) c := by
  have hmem : ∀ k ∈ s.v.ownBlock.toList, s.v.ownBlock = some k := fun k hk => by
    cases hv : s.v.ownBlock with
    | none => rw [hv] at hk; cases hk
    | some y => rw [hv] at hk; simp at hk; rw [hk]
  have hall : ∀ x ∈ l ++ [kid], x.ok W ∧ (∀ k ∈ x.foot, w.heap.size ≤ k) ∧ ∀ k ∈ x.foot, s.v.ownBlock ≠ some k := fun x hx => by
    rcases List.mem_append.1 hx with h' | h'
    · exact ⟨h.own.ok x h', h.own.low x h', h.own.apart x h'⟩
    · rw [List.mem_singleton.1 h']; exact ⟨hk0, hk1, hk2⟩
  have hpn : p ∉ bi :: s.v.ownBlock.toList := fun hm => by
    rcases List.mem_cons.1 hm with h' | h'
    · exact h.pb h'
    · have := (h.own.own.lt p (hmem p h')).1; have := h.pl; omega
  refine ⟨hb, (hc.block _ (block_lt h.cn) hpn).trans h.cn, ⟨ho, fun x hx => ?_, fun x hx k hk he => ?_, fun x hx => (hall x hx).2.1⟩, ?_, h.pl, h.bl, h.pb⟩
  · refine ItV.ok.keep hc (hall x hx).1 (fun k hk hm => ?_)
    rcases List.mem_cons.1 hm with h' | h'
    · have := (hall x hx).2.1 k hk; have := h.bl; omega
    · exact (hall x hx).2.2 k hk (hmem k h')
  · rcases hf with h' | h'
    · exact (hall x hx).2.2 k hk (by rw [← h']; exact he)
    · have h1 := h' k he
      have h2 := (hall x hx).1.lt k hk
      omega
  · exact h.chg.trans hc (fun k hk => by
      rcases List.mem_cons.1 hk with h' | h'
      · exact .inl (by rw [h']; simp)
      · exact .inr (h.own.own.lt k (hmem k h')).1)
end
/-- What the reference's reader answers. -/
def OneRes (r : DR) (l : List UInt8) (p : Nat) (w : World) (e : Ending) (w' : World) : Prop :=
  Chg [p] w w' ∧ match r with
  | .err z => e = .returned (.tuple #[.agg itZ.arr, .int .i64 0, .int .i64 z]) ∧ z ≠ 0
  | .ok i rest c' => ∃ (v : ItV) (m : Nat), e = .returned (.tuple #[.agg v.arr, .int .i64 (m : Int), .int .i64 0]) ∧ rest = l.drop m ∧ 8 ≤ m ∧ m ≤ l.length ∧ v.it = i ∧ v.ok w' ∧ (∀ k ∈ v.foot, w.heap.size ≤ k) ∧ w'.heap[p]? = some (.cells #[.int .i64 c'] 77 (0, 0))
/-- While the reference reads an item. -/
structure RoSt (w W : World) (b z p : Nat) (c : Nat) : Prop where
  rs : W.heap[b]? = some (.cells itZ.arr 29 (0, 0))
  zs : W.heap[z]? = some (.cells itZ.arr 29 (0, 0))
  cn : W.heap[p]? = some (.cells #[.int .i64 c] 77 (0, 0))
  chg : Chg [p] w W
  eb : b = w.heap.size
  ez : z = b + 1
  pl : p < w.heap.size
section
variable {w W W' w2 : World} {b z p c c' : Nat}
theorem RoSt.start (hbe : b = w.heap.size) (hn : w.heap[p]? = some (.cells #[.int .i64 c] 77 (0, 0))) (h1 : W.heap[b]? = some (.cells itZ.arr 29 (0, 0))) (hb1 : Below w.heap.size w W) (hz : W.heap.size = b + 1) (h2 : w2.heap[W.heap.size]? = some (.cells itZ.arr 29 (0, 0))) (hb2 : Below W.heap.size W w2) : RoSt w w2 b W.heap.size p c := by
  have hw := hb1.size
  refine ⟨(hb2.block _ (block_lt h1)).trans h1, h2, (hb2.block _ ?_).trans ((hb1.block _ (block_lt hn)).trans hn), Chg.of_below (hb1.trans (hb2.mono hw)) [p], hbe, hz, block_lt hn⟩
  have := block_lt hn; omega
theorem RoSt.below (h : RoSt w W b z p c) (hb : Below W.heap.size W W') : RoSt w W' b z p c :=
  ⟨(hb.block _ (block_lt h.rs)).trans h.rs, (hb.block _ (block_lt h.zs)).trans h.zs, (hb.block _ (block_lt h.cn)).trans h.cn, h.chg.trans (Chg.of_below hb []) (fun _ hm => by cases hm), h.eb, h.ez, h.pl⟩
theorem RoSt.turn {G : List Nat} (h : RoSt w W b z p c) (hc : Chg G W W') (hG : ∀ q ∈ G, q = p ∨ z < q) (hn : W'.heap[p]? = some (.cells #[.int .i64 c'] 77 (0, 0))) : RoSt w W' b z p c' := by
  have h1 := h.eb; have h2 := h.ez; have h3 := h.pl
  refine ⟨(hc.block _ (block_lt h.rs) (fun hm => by have := hG b hm; omega)).trans h.rs, (hc.block _ (block_lt h.zs) (fun hm => by have := hG z hm; omega)).trans h.zs, hn, h.chg.trans hc (fun q hq => ?_), h1, h2, h3⟩
  rcases hG q hq with h' | h'
  · left; rw [h']; simp
  · right; omega
theorem RoSt.keep {G : List Nat} (h : RoSt w W b z p c) (hc : Chg G W W') (hG : ∀ q ∈ G, z < q) : RoSt w W' b z p c :=
  h.turn hc (fun q hq => .inr (hG q hq)) ((hc.block _ (block_lt h.cn) (fun hm => by have := hG p hm; have := h.eb; have := h.ez; have := h.pl; omega)).trans h.cn)
theorem RoSt.put (h : RoSt w W b z p c) (y : Int) (hy : y = (c' : Int)) : RoSt w (W.setCell ⟨p, 0, none⟩ (.int .i64 y)) b z p c' := by
  subst hy
  exact h.turn ((Chg.refl [p] W).setCell (.inl (by simp)) _) (fun q hq => .inl (List.mem_singleton.1 hq)) (block_setCell (j := 0) h.cn _)
theorem RoSt.done (h : RoSt w W b z p c) (hc : Chg [b] W W') : Chg [p] w W' :=
  h.chg.trans hc (fun q hq => by right; rw [List.mem_singleton.1 hq]; have := h.eb; omega)
end
/-- The same without the count. -/
structure RoF (w W : World) (b z p : Nat) : Prop where
  rs : W.heap[b]? = some (.cells itZ.arr 29 (0, 0))
  zs : W.heap[z]? = some (.cells itZ.arr 29 (0, 0))
  chg : Chg [p] w W
  eb : b = w.heap.size
  ez : z = b + 1
  pl : p < w.heap.size
section
variable {w W W' : World} {b z p c : Nat}
theorem RoSt.toF (h : RoSt w W b z p c) : RoF w W b z p := ⟨h.rs, h.zs, h.chg, h.eb, h.ez, h.pl⟩
theorem RoF.below (h : RoF w W b z p) (hb : Below W.heap.size W W') : RoF w W' b z p :=
  ⟨(hb.block _ (block_lt h.rs)).trans h.rs, (hb.block _ (block_lt h.zs)).trans h.zs, h.chg.trans (Chg.of_below hb []) (fun _ hm => by cases hm), h.eb, h.ez, h.pl⟩
theorem RoF.turn {G : List Nat} (h : RoF w W b z p) (hc : Chg G W W') (hG : ∀ q ∈ G, q = p ∨ z < q) : RoF w W' b z p := by
  have h1 := h.eb; have h2 := h.ez; have h3 := h.pl
  refine ⟨(hc.block _ (block_lt h.rs) (fun hm => by have := hG b hm; omega)).trans h.rs, (hc.block _ (block_lt h.zs) (fun hm => by have := hG z hm; omega)).trans h.zs, h.chg.trans hc (fun q hq => ?_), h1, h2, h3⟩
  rcases hG q hq with h' | h'
  · left; rw [h']; simp
  · right; omega
theorem RoF.done (h : RoF w W b z p) (hc : Chg [b] W W') : Chg [p] w W' :=
  h.chg.trans hc (fun q hq => by right; rw [List.mem_singleton.1 hq]; have := h.eb; omega)
end
/-- What is made of a structure's kids. -/
def strD (T : Int) (N : Nat) (l : List UInt8) : KR → DR
  | .err e => .err e
  | .ok ks c' => match padE (l.drop 8) (up8 N - N) N with
    | some e => .err e
    | none => .ok ⟨T, 1, 0, [], ks⟩ ((l.drop 8).drop (up8 N)) c'
theorem no_foot {v : ItV} {lo : Nat} (h1 : v.ds = {}) (h2 : v.ks = {}) (h3 : v.kids = []) : ∀ k ∈ v.foot, lo < k := fun k hk => by
  rcases ItV.mem_foot.1 hk with h | h | ⟨x, hx, h⟩
  · rw [h1] at h; simp [Sl.blk] at h
  · rw [h2] at h; simp [Sl.blk] at h
  · rw [h3] at hx; cases hx
def stRow7 (T : TypeId) (v : ItV) : St Grow := ⟨fun u w => ∃ p, u = .slice (some ⟨p, 0, none⟩) 1 1 ∧ w.heap[p]? = some (.cells v.arr T (0, 0)), fun u w w' h hg => let ⟨p, e, h0⟩ := h; ⟨p, e, (hg.block _ (block_lt h0)).trans h0⟩⟩
theorem RdS.new {T : TypeId} {W : World} {a : Option Addr} {n c : Nat} {l : List UInt8} (hg : GB W a n c l) : RdS T (W.alloc (.cells #[.slice a n c, .bool false] T)) W.heap.size (l, false) (W.heap.size :: (a.map (·.block)).toList) := by
  have hb : Below W.heap.size W (W.alloc (.cells #[.slice a n c, .bool false] T)) := (Below.refl _ _).alloc (Nat.le_refl _) _
  refine ⟨by show l.length ≤ _; rw [hg.rd.len]; exact hg.le, _, ⟨a, n, c, hg.rd.len, block_new _ _, (hg.below hb).rd, hg.nc, hg.no, fun q off sp e => ?_, rfl⟩, fun q hq => hq⟩
  have h1 := hg.lt q off sp e
  have h2 := hb.size
  exact ⟨by omega, by omega⟩
theorem run_slice_mid {P : Program} (t e : TypeId) (size : Nat) (ht : P.underlying t = some (.slice e)) (hs : ∀ w, (sizeOf e).run P w = .ok size w) (a : Option Addr) (n c k h : Nat) (hk : k ≤ h) (hh : h ≤ c) (w : World) :
    (Instr.slice t (.slice a n c) (some (.int .i64 (k : Int))) (some (.int .i64 (h : Int))) none).run P w = .ok (.slice (if c = k then a else a.map (·.add (k * size))) (h - k) (c - k)) w := by
  have h1 : (0 : Int) ≤ (k : Int) ∧ (k : Int) ≤ (h : Int) := by omega
  have h2 : (0 : Int) ≤ (h : Int) ∧ (h : Int) ≤ (c : Int) := by omega
  have h3 : (k : Int) ≤ (h : Int) := by omega
  simp [Instr.slice, run_underlying ht, Instr.sliceBounds, Instr.sliceBound, asIntOf, h1, h2, h3, hs, hk, hh]
theorem iBuildTR (t k : Int) (w : World) : (Instr.build 29 #[(0, .int .i64 t), (1, .int .i64 k)]).run Tryd.prog w = .ok (.agg (ItV.arr { tag := t, typ := k })) w := iBuildTK t k w
/-- What the loop over the kids knows. -/
structure RkL (one : List UInt8 → Nat → DR) (R0 : KR) (w : World) (p bi : Nat) (vi : ItV) (y : Value) (wr : World) : Prop where
  ex : ∃ (a : Option Addr) (n c : Nat) (l : List UInt8) (s : Sl) (acc : List ItV) (cnt g : Nat), y = .slice a n c ∧ GB wr a n c l ∧ (∀ q off sp, a = some ⟨q, off, sp⟩ → q < w.heap.size ∧ q ≠ p ∧ q ≠ bi) ∧ RkSt w wr p bi vi s acc cnt ∧ acc.length ≤ cnt ∧ cnt ≤ 600 ∧ l.length ≤ g ∧ kidsD one g l cnt (acc.map ItV.it) = R0
/-- The loop over what pads. -/
structure RpL (b : List UInt8) (N E : Nat) (wx : World) (y : Value) (wr : World) : Prop where
  ex : ∃ j : Nat, y = .int .i64 ((8 + j : Nat) : Int) ∧ N ≤ j ∧ j ≤ E ∧ padE b (E - j) j = padE b (E - N) N ∧ wr = wx
theorem rone_any : ∀ (f : Nat) (dz : Int), dz + f = 13 → 1 ≤ dz → ∀ (a : Option Addr) (n c : Nat) (l : List UInt8) (cnt p : Nat) (w : World), GB w a n c l → Off a [p] → w.heap[p]? = some (.cells #[.int .i64 cnt] 77 (0, 0)) → cnt ≤ 600 → UT w →
    Calls Tryd.prog 38 #[.pointer (some ⟨p, 0, none⟩), .slice a n c, .int .i64 dz] w (OneRes (decF f l cnt) l p w) := by
  intro f
  induction f with
  | zero =>
    intro dz hd h1 a n c l cnt p w hg ho hn hc6 hT
    obtain rfl : dz = 13 := by omega
    have HG0 := hid hg; have HO := hid ho; have HT := hid hT; have HN := hid hn
    have HAP := hid (hT.apart hn (by show (1 : Nat) < 32; decide))
    have HLN := hid hg.rd.len
    have HLT := hid hg.lt
    clear hg ho hT hn
    obtain ⟨b, hbe⟩ : ∃ b, b = w.heap.size := ⟨_, rfl⟩
    have HBE := hid hbe
    go_enter Tryd.func38, Tryd.ntmps38
    go_upto_region 1 with (refine wpList_alloc_obj rfl 29 rfl _ iZero ?_)
    go_simp
    have h1 := block_new w (.cells itZ.arr 29)
    have hb1 : Below w.heap.size w (w.alloc (.cells itZ.arr 29)) := (Below.refl _ _).alloc (Nat.le_refl _) _
    have hz1 : (w.alloc (.cells itZ.arr 29)).heap.size = w.heap.size + 1 := by simp
    rw [← hbe] at h1 hz1 ⊢
    clear hbe
    have HRS := hid h1; have HB1 := hid hb1; have HZ1 := hid hz1
    clear h1 hb1 hz1
    generalize w.alloc (.cells itZ.arr 29) = W at *
    go_upto_region 2 with (first | (refine wpList_build_obj rfl 29 _ rfl #[] rfl _ (iBuild0 _) ?_) | (refine wpList_alloc_obj rfl 29 rfl _ iZero ?_) | (refine wpList_store_obj rfl 29 _ _ rfl W.heap.size rfl itZ.arr rfl _ _ (block_new W _) rfl iSize (arr_one itZ) ?_; intro w2 hb2 hc2 hs2; have HZS := hid hb2; have HC2 := hid hc2; clear hb2 hc2 hs2))
    have S := hid (RoSt.start HBE.out HN.out HRS.out HB1.out HZ1.out HZS.out (((Below.refl _ W).alloc (Nat.le_refl _) _).trans (HC2.out.below (fun k hk => by rw [List.mem_singleton.1 hk]; exact Nat.le_refl _) (by simp))))
    clear HRS HB1 HZ1 HZS HC2 HN
    generalize W.heap.size = z at *
    by_cases h8 : n < 8
    · have h8z : (n : Int) < 8 := by omega
      have HD : Hid (decF 0 l cnt = .err 7) := by have := HLN.out; show _ = _; rw [decF, if_pos (by omega)]
      clear h8
      go_wp2_with (first | (refine wpList_load_row rfl 29 _ rfl z rfl _ _ _ _ S.out.zs Tryd.underlying29 rfl iSize ?_) | (refine wpList_store_obj rfl 29 _ _ rfl b rfl itZ.arr rfl _ _ S.out.rs rfl iSize (arr_one itZ) ?_; intro w10 hb10 hc10 hs10; have HB10 := hid hb10; have HC10 := hid hc10; clear hb10 hc10 hs10))
      refine bodyPost_ret (results_cell_tmp2 rfl _ _ b _ _ _ _ rfl HB10.out Tryd.underlying29 rfl iSize _ _ rfl rfl) rfl ?_
      unfold OneRes
      rw [HD.out]
      exact ⟨S.out.done HC10.out, rfl, by decide⟩
    have h8z : ¬ (n : Int) < 8 := by omega
    have H8 := hid h8
    clear h8
    have HD : Hid (decF 0 l cnt = .err 10) := by have := HLN.out; have := H8.out; show _ = _; rw [decF, if_neg (by omega)]
    go_wp2_with (first | (refine wpList_load_row rfl 29 _ rfl z rfl _ _ _ _ S.out.zs Tryd.underlying29 rfl iSize ?_) | (refine wpList_store_obj rfl 29 _ _ rfl b rfl itZ.arr rfl _ _ S.out.rs rfl iSize (arr_one itZ) ?_; intro w10 hb10 hc10 hs10; have HB10 := hid hb10; have HC10 := hid hc10; clear hb10 hc10 hs10))
    refine bodyPost_ret (results_cell_tmp2 rfl _ _ b _ _ _ _ rfl HB10.out Tryd.underlying29 rfl iSize _ _ rfl rfl) rfl ?_
    unfold OneRes
    rw [HD.out]
    exact ⟨S.out.done HC10.out, rfl, by decide⟩
  | succ f ih =>
    intro dz hd h1 a n c l cnt p w hg ho hn hc6 hT
    have IH := hid ih
    have HDZ := hid (And.intro (show dz + 1 + (f : Int) = 13 by omega) (show 1 ≤ dz + 1 by omega))
    have HDW : Hid (IntKind.i64.wrap (dz + 1) = dz + 1) := IntWalk.i64_in _ (by omega)
    have hdz : ¬ (12 : Int) < dz := by omega
    clear ih hd h1
    have HG0 := hid hg; have HO := hid ho; have HT := hid hT; have HN := hid hn
    have HAP := hid (hT.apart hn (by show (1 : Nat) < 32; decide))
    have HLN := hid hg.rd.len
    have HLT := hid hg.lt
    clear hg ho hT hn
    obtain ⟨b, hbe⟩ : ∃ b, b = w.heap.size := ⟨_, rfl⟩
    have HBE := hid hbe
    go_enter Tryd.func38, Tryd.ntmps38
    go_upto_region 1 with (refine wpList_alloc_obj rfl 29 rfl _ iZero ?_)
    go_simp
    have h1 := block_new w (.cells itZ.arr 29)
    have hb1 : Below w.heap.size w (w.alloc (.cells itZ.arr 29)) := (Below.refl _ _).alloc (Nat.le_refl _) _
    have hz1 : (w.alloc (.cells itZ.arr 29)).heap.size = w.heap.size + 1 := by simp
    rw [← hbe] at h1 hz1 ⊢
    clear hbe
    have HRS := hid h1; have HB1 := hid hb1; have HZ1 := hid hz1
    clear h1 hb1 hz1
    generalize w.alloc (.cells itZ.arr 29) = W at *
    go_upto_region 2 with (first | (refine wpList_build_obj rfl 29 _ rfl #[] rfl _ (iBuild0 _) ?_) | (refine wpList_alloc_obj rfl 29 rfl _ iZero ?_) | (refine wpList_store_obj rfl 29 _ _ rfl W.heap.size rfl itZ.arr rfl _ _ (block_new W _) rfl iSize (arr_one itZ) ?_; intro w2 hb2 hc2 hs2; have HZS := hid hb2; have HC2 := hid hc2; clear hb2 hc2 hs2))
    have S := hid (RoSt.start HBE.out HN.out HRS.out HB1.out HZ1.out HZS.out (((Below.refl _ W).alloc (Nat.le_refl _) _).trans (HC2.out.below (fun k hk => by rw [List.mem_singleton.1 hk]; exact Nat.le_refl _) (by simp))))
    clear HRS HB1 HZ1 HZS HC2 HN
    generalize W.heap.size = z at *
    by_cases h8 : n < 8
    · have h8z : (n : Int) < 8 := by omega
      have HD : Hid (decF (f + 1) l cnt = .err 7) := by have := HLN.out; show _ = _; rw [decF, if_pos (by omega)]
      clear h8
      go_wp2_with (first | (refine wpList_load_row rfl 29 _ rfl z rfl _ _ _ _ S.out.zs Tryd.underlying29 rfl iSize ?_) | (refine wpList_store_obj rfl 29 _ _ rfl b rfl itZ.arr rfl _ _ S.out.rs rfl iSize (arr_one itZ) ?_; intro w10 hb10 hc10 hs10; have HB10 := hid hb10; have HC10 := hid hc10; clear hb10 hc10 hs10))
      refine bodyPost_ret (results_cell_tmp2 rfl _ _ b _ _ _ _ rfl HB10.out Tryd.underlying29 rfl iSize _ _ rfl rfl) rfl ?_
      unfold OneRes
      rw [HD.out]
      exact ⟨S.out.done HC10.out, rfl, by decide⟩
    have h8z : ¬ (n : Int) < 8 := by omega
    have H8 := hid h8
    clear h8
    have dc := cell_of_block (j := 0) S.out.cn rfl
    have hfz := frozen_of_block (j := 0) S.out.cn
    have hw : IntKind.i64.wrap ((cnt : Int) + 1) = (cnt : Int) + 1 := IntWalk.i64_in _ (by omega)
    go_upto_region 7 with (fail)
    have S2 := hid (S.out.put (c' := cnt + 1) ((cnt : Int) + 1) (by omega))
    clear S dc hfz hw
    have S := S2
    clear S2
    generalize w2.setCell ⟨p, 0, none⟩ (.int .i64 ((cnt : Int) + 1)) = W1 at *
    have dcn := cell_of_block (j := 0) S.out.cn rfl
    by_cases q1 : 600 < cnt + 1
    · have q1z : (600 : Int) < ((cnt + 1 : Nat) : Int) := by omega
      have HD : Hid (decF (f + 1) l cnt = .err 5) := by have := HLN.out; have := H8.out; show _ = _; rw [decF, if_neg (by omega), if_pos (.inl q1)]
      clear q1
      go_wp2_with (first | (refine wpList_load_row rfl 29 _ rfl z rfl _ _ _ _ S.out.zs Tryd.underlying29 rfl iSize ?_) | (refine wpList_store_obj rfl 29 _ _ rfl b rfl itZ.arr rfl _ _ S.out.rs rfl iSize (arr_one itZ) ?_; intro w10 hb10 hc10 hs10; have HB10 := hid hb10; have HC10 := hid hc10; clear hb10 hc10 hs10))
      refine bodyPost_ret (results_cell_tmp2 rfl _ _ b _ _ _ _ rfl HB10.out Tryd.underlying29 rfl iSize _ _ rfl rfl) rfl ?_
      unfold OneRes
      rw [HD.out]
      exact ⟨S.out.done HC10.out, rfl, by decide⟩
    have q1z : ¬ (600 : Int) < ((cnt + 1 : Nat) : Int) := by omega
    go_upto_region 10 with (fail)
    have HG := hid (HG0.out.keep S.out.chg HO.out)
    have HQ : Hid (RdS 100 (W1.alloc (.cells #[.slice a n c, .bool false] 100)) W1.heap.size (l, false) (W1.heap.size :: (a.map (·.block)).toList)) := RdS.new HG.out
    have HQB := hid (block_lt S.out.zs)
    have S2 := hid (S.out.below ((Below.refl _ W1).alloc (Nat.le_refl _) (.cells #[.slice a n c, .bool false] 100)))
    clear S HG dcn q1z
    have S := S2
    clear S2
    generalize W1.alloc (.cells #[.slice a n c, .bool false] 100) = w2' at *
    obtain ⟨r, hr⟩ : ∃ r, r = W1.heap.size := ⟨_, rfl⟩
    rw [← hr] at HQ HQB ⊢
    clear hr
    generalize r :: (a.map (·.block)).toList = FQ at *
    obtain ⟨hr1, hr2, hr3, hr4⟩ := hd_range (l := l) (by have := H8.out; have := HLN.out; omega)
    obtain ⟨hw1, hw2, hw3, hw4⟩ := hd_whole (l := l) (by have := H8.out; have := HLN.out; omega)
    have HR1 := hid hr1; have HR2 := hid hr2; have HR3 := hid hr3; have HR4 := hid hr4
    have HW1 := hid hw1; have HW2 := hid hw2; have HW3 := hid hw3; have HW4 := hid hw4
    clear hr1 hr2 hr3 hr4 hw1 hw2 hw3 hw4
    go_wp2_with fail
    refine (srU8_any r _ FQ _ HQ.out).mono ?_
    rintro e w3 ⟨rfl, hc3, hq3⟩
    dsimp only
    rw [HW1.out]
    obtain ⟨A, hA⟩ : ∃ x, x = tagA l := ⟨_, rfl⟩
    rw [← hA] at HR1 ⊢
    have HA := hid hA
    have S2 := hid (S.out.keep hc3 (fun k hk => by rw [List.mem_singleton.1 hk]; exact HQB.out))
    clear S HQ
    have S := S2
    have HQ := hid hq3
    clear S2 hc3 hq3 hA
    have hsh : IntKind.i64.wrap (A * 65536) = A * 65536 := IntWalk.i64_in _ (by have := HR1.out; omega)
    go_wp2_with fail
    refine (srU16_any r _ FQ _ HQ.out).mono ?_
    rintro e w4 ⟨rfl, hc3, hq3⟩
    dsimp only
    rw [HW2.out]
    obtain ⟨L, hL⟩ : ∃ x, x = tagL l := ⟨_, rfl⟩
    rw [← hL] at HR2 ⊢
    have HL := hid hL
    have S2 := hid (S.out.keep hc3 (fun k hk => by rw [List.mem_singleton.1 hk]; exact HQB.out))
    clear S HQ
    have S := S2
    have HQ := hid hq3
    clear S2 hc3 hq3 hL
    have hTD : A * 65536 + L = tagD l := by rw [HA.out, HL.out]; rfl
    have hadd : IntKind.i64.wrap (A * 65536 + L) = tagD l := by rw [← hTD]; exact IntWalk.i64_in _ (by have := HR1.out; have := HR2.out; omega)
    obtain ⟨T, hT⟩ : ∃ T, T = tagD l := ⟨_, rfl⟩
    rw [← hT] at hadd
    have HTD := hid hT
    clear hT hTD
    go_wp2_with fail
    refine (srU8_any r _ FQ _ HQ.out).mono ?_
    rintro e w5 ⟨rfl, hc3, hq3⟩
    dsimp only
    rw [HW3.out]
    obtain ⟨K, hK⟩ : ∃ x, x = typD l := ⟨_, rfl⟩
    rw [← hK] at HR3 ⊢
    have HK := hid hK
    have S2 := hid (S.out.keep hc3 (fun k hk => by rw [List.mem_singleton.1 hk]; exact HQB.out))
    clear S HQ
    have S := S2
    have HQ := hid hq3
    clear S2 hc3 hq3 hK
    go_wp2_with fail
    refine (srU32_any r _ FQ _ HQ.out).mono ?_
    rintro e w6 ⟨rfl, hc3, hq3⟩
    dsimp only
    rw [HW4.out]
    obtain ⟨Z, hZ⟩ : ∃ x, x = lenD l := ⟨_, rfl⟩
    rw [← hZ] at HR4 ⊢
    have HZ := hid hZ
    have S2 := hid (S.out.keep hc3 (fun k hk => by rw [List.mem_singleton.1 hk]; exact HQB.out))
    clear S HQ
    have S := S2
    have HQ := hid hq3
    clear S2 hc3 hq3 hZ
    clear HQ HW1 HW2 HW3 HW4 HA HL HR1 HR2 hsh
    obtain ⟨m, hm⟩ : ∃ m, m = n - 8 := ⟨_, rfl⟩
    have HM := hid hm
    clear hm
    have HM2 : Hid ((l.drop 8).length = m) := by have h1 := HM.out; have h2 := HLN.out; show _ = _; rw [List.length_drop]; omega
    have HD0 : Hid (decF (f + 1) l cnt = if 600 < cnt + 1 ∨ tagB T = false ∨ K < 1 ∨ 10 < K then .err 5 else if ((l.drop 8).length : Int) < Z then .err 7 else if ofB K Z.toNat = false then .err 5 else match bodyD (decF f) K ((l.drop 8).take Z.toNat) (cnt + 1) with | .err e => .err e | .ok n d ks c' => match padE (l.drop 8) (up8 Z.toNat - Z.toNat) Z.toNat with | some e => .err e | none => .ok ⟨T, K, n, d, ks⟩ ((l.drop 8).drop (up8 Z.toNat)) c') := by
      have h1 := H8.out; have h2 := HLN.out
      show _ = _
      rw [decF, if_neg (by omega), HTD.out, HK.out, HZ.out]
      rfl
    have hsub : IntKind.i64.wrap ((n : Int) - 8) = (m : Int) := by have h1 := HM.out; have h2 := HG0.out.le; have h3 := H8.out; rw [IntWalk.i64_in _ (by omega)]; omega
    cases q2 : tagB T with
    | false =>
      have Q2 := hid q2
      rw [if_pos (.inr (.inl q2))] at HD0
      clear q1 q2
      go_wp2_with fail
      refine (tagOk_any T _).mono ?_
      rintro e wz ⟨rfl, rfl⟩
      dsimp only
      rw [Q2.out]
      go_wp2_with (first | (refine wpList_load_row rfl 29 _ rfl z rfl _ _ _ _ S.out.zs Tryd.underlying29 rfl iSize ?_) | (refine wpList_store_obj rfl 29 _ _ rfl b rfl itZ.arr rfl _ _ S.out.rs rfl iSize (arr_one itZ) ?_; intro w10 hb10 hc10 hs10; have HB10 := hid hb10; have HC10 := hid hc10; clear hb10 hc10 hs10))
      refine bodyPost_ret (results_cell_tmp2 rfl _ _ b _ _ _ _ rfl HB10.out Tryd.underlying29 rfl iSize _ _ rfl rfl) rfl ?_
      unfold OneRes
      rw [HD0.out]
      exact ⟨S.out.done HC10.out, rfl, by decide⟩
    | true =>
      have Q2 := hid q2
      by_cases q3 : K < 1
      · rw [if_pos (.inr (.inr (.inl q3)))] at HD0
        clear q1 q2
        go_wp2_with fail
        refine (tagOk_any T _).mono ?_
        rintro e wz ⟨rfl, rfl⟩
        dsimp only
        rw [Q2.out]
        go_wp2_with (first | (refine wpList_load_row rfl 29 _ rfl z rfl _ _ _ _ S.out.zs Tryd.underlying29 rfl iSize ?_) | (refine wpList_store_obj rfl 29 _ _ rfl b rfl itZ.arr rfl _ _ S.out.rs rfl iSize (arr_one itZ) ?_; intro w10 hb10 hc10 hs10; have HB10 := hid hb10; have HC10 := hid hc10; clear hb10 hc10 hs10))
        refine bodyPost_ret (results_cell_tmp2 rfl _ _ b _ _ _ _ rfl HB10.out Tryd.underlying29 rfl iSize _ _ rfl rfl) rfl ?_
        unfold OneRes
        rw [HD0.out]
        exact ⟨S.out.done HC10.out, rfl, by decide⟩
      by_cases q4 : 10 < K
      · rw [if_pos (.inr (.inr (.inr q4)))] at HD0
        clear q1 q2
        go_wp2_with fail
        refine (tagOk_any T _).mono ?_
        rintro e wz ⟨rfl, rfl⟩
        dsimp only
        rw [Q2.out]
        go_wp2_with (first | (refine wpList_load_row rfl 29 _ rfl z rfl _ _ _ _ S.out.zs Tryd.underlying29 rfl iSize ?_) | (refine wpList_store_obj rfl 29 _ _ rfl b rfl itZ.arr rfl _ _ S.out.rs rfl iSize (arr_one itZ) ?_; intro w10 hb10 hc10 hs10; have HB10 := hid hb10; have HC10 := hid hc10; clear hb10 hc10 hs10))
        refine bodyPost_ret (results_cell_tmp2 rfl _ _ b _ _ _ _ rfl HB10.out Tryd.underlying29 rfl iSize _ _ rfl rfl) rfl ?_
        unfold OneRes
        rw [HD0.out]
        exact ⟨S.out.done HC10.out, rfl, by decide⟩
      rw [if_neg (by simp only [not_or]; exact ⟨q1, by rw [q2]; decide, q3, q4⟩)] at HD0
      clear q1 q2
      by_cases q5 : (m : Int) < Z
      · rw [if_pos (by rw [HM2.out]; exact q5)] at HD0
        go_wp2_with fail
        refine (tagOk_any T _).mono ?_
        rintro e wz ⟨rfl, rfl⟩
        dsimp only
        rw [Q2.out]
        go_wp2_with (first | (refine wpList_load_row rfl 29 _ rfl z rfl _ _ _ _ S.out.zs Tryd.underlying29 rfl iSize ?_) | (refine wpList_store_obj rfl 29 _ _ rfl b rfl itZ.arr rfl _ _ S.out.rs rfl iSize (arr_one itZ) ?_; intro w10 hb10 hc10 hs10; have HB10 := hid hb10; have HC10 := hid hc10; clear hb10 hc10 hs10))
        refine bodyPost_ret (results_cell_tmp2 rfl _ _ b _ _ _ _ rfl HB10.out Tryd.underlying29 rfl iSize _ _ rfl rfl) rfl ?_
        unfold OneRes
        rw [HD0.out]
        exact ⟨S.out.done HC10.out, rfl, by decide⟩
      rw [if_neg (by rw [HM2.out]; exact q5)] at HD0
      obtain ⟨N, hN⟩ := Int.eq_ofNat_of_zero_le HR4.out.1
      rw [hN, Int.toNat_natCast] at HD0
      have HNM : Hid (N ≤ m) := by show _ ≤ _; omega
      have HN4 : Hid (N < 4294967296) := by have := HR4.out; show _ < _; omega
      clear HZ HR4 HR3
      subst hN
      go_wp2_with fail
      refine (tagOk_any T _).mono ?_
      rintro e wz ⟨rfl, rfl⟩
      dsimp only
      rw [Q2.out]
      go_upto_block 0 with (first | (refine wpList_build_obj rfl 29 _ rfl #[(0, .int .i64 T), (1, .int .i64 K)] rfl _ (iBuildTR T K _) ?_) | (refine wpList_alloc_obj rfl 29 rfl _ iZero ?_) | (refine wpList_store_obj rfl 29 _ _ rfl w6.heap.size rfl (ItV.arr { tag := T, typ := K }) rfl _ _ (block_new w6 _) rfl iSize (arr_one _) ?_; intro w7 hb6 hc6b hs6; have HBI := hid hb6; have HC6 := hid hc6b; clear hb6 hc6b hs6))
      clear hadd hsub q5
      have hbel : Below w6.heap.size w6 w7 := ((Below.refl _ w6).alloc (Nat.le_refl _) _).trans (HC6.out.below (fun k hk => by rw [List.mem_singleton.1 hk]; exact Nat.le_refl _) (by simp))
      have HBB := hid (block_lt S.out.zs)
      have S2 := hid (S.out.below hbel)
      clear S HC6 hbel
      have S := S2
      clear S2
      generalize w6.heap.size = bi at *
      go_cut [] (fun wx => w7 = wx ∧ ofB K N = true)
      case first =>
        have HKR : K = 1 ∨ K = 2 ∨ K = 3 ∨ K = 4 ∨ K = 5 ∨ K = 6 ∨ K = 7 ∨ K = 8 ∨ K = 9 ∨ K = 10 := by omega
        clear q3 q4
        rcases HKR with rfl | rfl | rfl | rfl | rfl | rfl | rfl | rfl | rfl | rfl
        · as_aux_lemma =>
          go_wp2_with fail
          go_meet
          exact ⟨rfl, rfl⟩
        · as_aux_lemma =>
          by_cases hN : N = 4
          · have hNb : ((N : Int) != 4) = false := by rw [hN]; rfl
            go_wp2_with fail
            go_meet
            exact ⟨rfl, show ofB _ N = true from by simp [ofB, isD, isS, hN]⟩
          · have hNb : ((N : Int) != 4) = true := by rw [bne_iff_ne]; omega
            rw [if_pos (show ofB _ N = false from by simp [ofB, isD, isS, hN])] at HD0
            go_wp2_with (first | (refine wpList_load_row rfl 29 _ rfl z rfl _ _ _ _ S.out.zs Tryd.underlying29 rfl iSize ?_) | (refine wpList_store_obj rfl 29 _ _ rfl b rfl itZ.arr rfl _ _ S.out.rs rfl iSize (arr_one itZ) ?_; intro w10 hb10 hc10 hs10; have HB10 := hid hb10; have HC10 := hid hc10; clear hb10 hc10 hs10))
            refine bodyPost_ret (results_cell_tmp2 rfl _ _ b _ _ _ _ rfl HB10.out Tryd.underlying29 rfl iSize _ _ rfl rfl) rfl ?_
            unfold OneRes
            rw [HD0.out]
            exact ⟨S.out.done HC10.out, rfl, by decide⟩
        · as_aux_lemma =>
          by_cases hN : N = 8
          · have hNb : ((N : Int) != 8) = false := by rw [hN]; rfl
            go_wp2_with fail
            go_meet
            exact ⟨rfl, show ofB _ N = true from by simp [ofB, isD, isS, hN]⟩
          · have hNb : ((N : Int) != 8) = true := by rw [bne_iff_ne]; omega
            rw [if_pos (show ofB _ N = false from by simp [ofB, isD, isS, hN])] at HD0
            go_wp2_with (first | (refine wpList_load_row rfl 29 _ rfl z rfl _ _ _ _ S.out.zs Tryd.underlying29 rfl iSize ?_) | (refine wpList_store_obj rfl 29 _ _ rfl b rfl itZ.arr rfl _ _ S.out.rs rfl iSize (arr_one itZ) ?_; intro w10 hb10 hc10 hs10; have HB10 := hid hb10; have HC10 := hid hc10; clear hb10 hc10 hs10))
            refine bodyPost_ret (results_cell_tmp2 rfl _ _ b _ _ _ _ rfl HB10.out Tryd.underlying29 rfl iSize _ _ rfl rfl) rfl ?_
            unfold OneRes
            rw [HD0.out]
            exact ⟨S.out.done HC10.out, rfl, by decide⟩
        · as_aux_lemma =>
          have hmod : IntKind.i64.wrap ((N : Int).tmod 8) = (N : Int) % 8 := by rw [Int.tmod_eq_emod_of_nonneg (by omega)]; exact IntWalk.i64_in _ (by omega)
          by_cases hN : N = 0
          · have hNb : ((N : Int) == 0) = true := by rw [hN]; rfl
            rw [if_pos (show ofB _ N = false from by simp [ofB, hN])] at HD0
            go_wp2_with (first | (refine wpList_load_row rfl 29 _ rfl z rfl _ _ _ _ S.out.zs Tryd.underlying29 rfl iSize ?_) | (refine wpList_store_obj rfl 29 _ _ rfl b rfl itZ.arr rfl _ _ S.out.rs rfl iSize (arr_one itZ) ?_; intro w10 hb10 hc10 hs10; have HB10 := hid hb10; have HC10 := hid hc10; clear hb10 hc10 hs10))
            refine bodyPost_ret (results_cell_tmp2 rfl _ _ b _ _ _ _ rfl HB10.out Tryd.underlying29 rfl iSize _ _ rfl rfl) rfl ?_
            unfold OneRes
            rw [HD0.out]
            exact ⟨S.out.done HC10.out, rfl, by decide⟩
          · have hNb : ((N : Int) == 0) = false := by rw [beq_eq_false_iff_ne]; omega
            by_cases hN8 : N % 8 = 0
            · have hgt : ¬ (0 : Int) < (N : Int) % 8 := by omega
              go_wp2_with fail
              go_meet
              exact ⟨rfl, show ofB _ N = true by simp [ofB, hN8]; omega⟩
            · have hgt : (0 : Int) < (N : Int) % 8 := by omega
              rw [if_pos (show ofB _ N = false from by simp [ofB, hN8])] at HD0
              go_wp2_with (first | (refine wpList_load_row rfl 29 _ rfl z rfl _ _ _ _ S.out.zs Tryd.underlying29 rfl iSize ?_) | (refine wpList_store_obj rfl 29 _ _ rfl b rfl itZ.arr rfl _ _ S.out.rs rfl iSize (arr_one itZ) ?_; intro w10 hb10 hc10 hs10; have HB10 := hid hb10; have HC10 := hid hc10; clear hb10 hc10 hs10))
              refine bodyPost_ret (results_cell_tmp2 rfl _ _ b _ _ _ _ rfl HB10.out Tryd.underlying29 rfl iSize _ _ rfl rfl) rfl ?_
              unfold OneRes
              rw [HD0.out]
              exact ⟨S.out.done HC10.out, rfl, by decide⟩
        · as_aux_lemma =>
          by_cases hN : N = 4
          · have hNb : ((N : Int) != 4) = false := by rw [hN]; rfl
            go_wp2_with fail
            go_meet
            exact ⟨rfl, show ofB _ N = true from by simp [ofB, isD, isS, hN]⟩
          · have hNb : ((N : Int) != 4) = true := by rw [bne_iff_ne]; omega
            rw [if_pos (show ofB _ N = false from by simp [ofB, isD, isS, hN])] at HD0
            go_wp2_with (first | (refine wpList_load_row rfl 29 _ rfl z rfl _ _ _ _ S.out.zs Tryd.underlying29 rfl iSize ?_) | (refine wpList_store_obj rfl 29 _ _ rfl b rfl itZ.arr rfl _ _ S.out.rs rfl iSize (arr_one itZ) ?_; intro w10 hb10 hc10 hs10; have HB10 := hid hb10; have HC10 := hid hc10; clear hb10 hc10 hs10))
            refine bodyPost_ret (results_cell_tmp2 rfl _ _ b _ _ _ _ rfl HB10.out Tryd.underlying29 rfl iSize _ _ rfl rfl) rfl ?_
            unfold OneRes
            rw [HD0.out]
            exact ⟨S.out.done HC10.out, rfl, by decide⟩
        · as_aux_lemma =>
          by_cases hN : N = 8
          · have hNb : ((N : Int) != 8) = false := by rw [hN]; rfl
            go_wp2_with fail
            go_meet
            exact ⟨rfl, show ofB _ N = true from by simp [ofB, isD, isS, hN]⟩
          · have hNb : ((N : Int) != 8) = true := by rw [bne_iff_ne]; omega
            rw [if_pos (show ofB _ N = false from by simp [ofB, isD, isS, hN])] at HD0
            go_wp2_with (first | (refine wpList_load_row rfl 29 _ rfl z rfl _ _ _ _ S.out.zs Tryd.underlying29 rfl iSize ?_) | (refine wpList_store_obj rfl 29 _ _ rfl b rfl itZ.arr rfl _ _ S.out.rs rfl iSize (arr_one itZ) ?_; intro w10 hb10 hc10 hs10; have HB10 := hid hb10; have HC10 := hid hc10; clear hb10 hc10 hs10))
            refine bodyPost_ret (results_cell_tmp2 rfl _ _ b _ _ _ _ rfl HB10.out Tryd.underlying29 rfl iSize _ _ rfl rfl) rfl ?_
            unfold OneRes
            rw [HD0.out]
            exact ⟨S.out.done HC10.out, rfl, by decide⟩
        · as_aux_lemma =>
          go_wp2_with fail
          go_meet
          exact ⟨rfl, rfl⟩
        · as_aux_lemma =>
          go_wp2_with fail
          go_meet
          exact ⟨rfl, rfl⟩
        · as_aux_lemma =>
          by_cases hN : N = 8
          · have hNb : ((N : Int) != 8) = false := by rw [hN]; rfl
            go_wp2_with fail
            go_meet
            exact ⟨rfl, show ofB _ N = true from by simp [ofB, isD, isS, hN]⟩
          · have hNb : ((N : Int) != 8) = true := by rw [bne_iff_ne]; omega
            rw [if_pos (show ofB _ N = false from by simp [ofB, isD, isS, hN])] at HD0
            go_wp2_with (first | (refine wpList_load_row rfl 29 _ rfl z rfl _ _ _ _ S.out.zs Tryd.underlying29 rfl iSize ?_) | (refine wpList_store_obj rfl 29 _ _ rfl b rfl itZ.arr rfl _ _ S.out.rs rfl iSize (arr_one itZ) ?_; intro w10 hb10 hc10 hs10; have HB10 := hid hb10; have HC10 := hid hc10; clear hb10 hc10 hs10))
            refine bodyPost_ret (results_cell_tmp2 rfl _ _ b _ _ _ _ rfl HB10.out Tryd.underlying29 rfl iSize _ _ rfl rfl) rfl ?_
            unfold OneRes
            rw [HD0.out]
            exact ⟨S.out.done HC10.out, rfl, by decide⟩
        · as_aux_lemma =>
          by_cases hN : N = 4
          · have hNb : ((N : Int) != 4) = false := by rw [hN]; rfl
            go_wp2_with fail
            go_meet
            exact ⟨rfl, show ofB _ N = true from by simp [ofB, isD, isS, hN]⟩
          · have hNb : ((N : Int) != 4) = true := by rw [bne_iff_ne]; omega
            rw [if_pos (show ofB _ N = false from by simp [ofB, isD, isS, hN])] at HD0
            go_wp2_with (first | (refine wpList_load_row rfl 29 _ rfl z rfl _ _ _ _ S.out.zs Tryd.underlying29 rfl iSize ?_) | (refine wpList_store_obj rfl 29 _ _ rfl b rfl itZ.arr rfl _ _ S.out.rs rfl iSize (arr_one itZ) ?_; intro w10 hb10 hc10 hs10; have HB10 := hid hb10; have HC10 := hid hc10; clear hb10 hc10 hs10))
            refine bodyPost_ret (results_cell_tmp2 rfl _ _ b _ _ _ _ rfl HB10.out Tryd.underlying29 rfl iSize _ _ rfl rfl) rfl ?_
            unfold OneRes
            rw [HD0.out]
            exact ⟨S.out.done HC10.out, rfl, by decide⟩
      case rest =>
        obtain ⟨hwc, hof⟩ := hcut
        subst hwc
        rw [if_neg (by rw [hof]; decide)] at HD0
        have HOF := hid hof
        clear hof
        obtain ⟨a2, ha2, hg2, hof2⟩ := (HG0.out.keep S.out.chg HO.out).drop (k := 8) (by have := H8.out; omega)
        obtain ⟨cm, hcm⟩ : ∃ cm, cm = c - 8 := ⟨_, rfl⟩
        obtain ⟨N8, hN8⟩ : ∃ x, x = 8 + N := ⟨_, rfl⟩
        rw [← HM.out, ← hcm] at hg2
        have hadd8 : IntKind.i64.wrap (8 + (N : Int)) = (N8 : Int) := by have := HN4.out; rw [IntWalk.i64_in _ (by omega)]; omega
        have hsl : ∀ w, (Instr.slice 23 (.slice a n c) (some (.int .i64 8)) (some (.int .i64 (N8 : Int))) none).run Tryd.prog w = .ok (.slice a2 N cm) w := fun w => by
          have h := run_slice_mid (P := Tryd.prog) 23 5 1 Tryd.underlying23 (fun w => by kernel_rfl) a n c 8 N8 (by omega) (by have h1 := HNM.out; have h2 := HM.out; have h3 := HG0.out.nc; have h4 := H8.out; omega) w
          rw [ha2, show N8 - 8 = N by omega, ← hcm] at h
          exact h
        have HG2 := hid (hg2.take HNM.out)
        have HOF2 : Hid (∀ q off sp, a2 = some ⟨q, off, sp⟩ → q < b ∧ q ≠ p) := fun q off sp e => by
          obtain ⟨off', sp', e'⟩ := hof2 q off sp e
          have h1 := HLT.out q off' sp' e'
          have h2 := HBE.out
          exact ⟨by omega, fun h => HO.out q off' sp' e' (by rw [h]; simp)⟩
        have HN8 := hid hN8
        have HBL : Hid (((l.drop 8).take N).length = N) := by have h1 := HM2.out; have h2 := HNM.out; show _ = _; rw [List.length_take]; omega
        clear ha2 hg2 hof2 hcm hN8
        generalize hBd : (l.drop 8).take N = Bd at *
        have HBD := hid hBd
        clear hBd
        go_upto_block 1 with (fail)
        clear hsl
        by_cases k1 : K = 1
        · subst k1
          obtain ⟨R0, hR⟩ : ∃ R0, R0 = kidsD (decF f) Bd.length Bd (cnt + 1) [] := ⟨_, rfl⟩
          have HD : Hid (decF (f + 1) l cnt = strD T N l R0) := by
            show _ = _
            rw [HD0.out]
            unfold bodyD
            rw [if_pos rfl, ← hR]
            cases R0 <;> rfl
          have HRW : Hid (∀ ks c', R0 = .ok ks c' → N % 8 = 0) := fun ks c' h => by
            have h1 := kids_words (decF_at f) Bd.length Bd (cnt + 1) [] ks c' (Nat.le_refl _) (by rw [← hR, h])
            have h2 := HBL.out
            omega
          have HPB : Hid (p ≠ bi) := by have h1 := S.out.eb; have h2 := S.out.pl; have h3 := HBB.out; have h4 := S.out.ez; show p ≠ bi; omega
          have HK0 : Hid (RkL (decF f) R0 w7 p bi { tag := T, typ := 1 } (.slice a2 N cm) w7) := by
            refine ⟨a2, N, cm, Bd, {}, [], cnt + 1, Bd.length, rfl, HG2.out, fun q off sp e => ?_, ⟨HBI.out, S.out.cn, OwnIt.nil _ _ _ _, Chg.refl _ _, block_lt S.out.cn, block_lt HBI.out, HPB.out⟩, Nat.zero_le _, by omega, Nat.le_refl _, hR.symm⟩
            have h1 := HOF2.out q off sp e
            have h2 := HBB.out; have h3 := S.out.ez
            exact ⟨HG2.out.lt q off sp e, h1.2, by omega⟩
          have HAPB : Hid (∀ q ∈ [p, bi], q ≠ 0 ∧ q ≠ 1) := fun q hq => by
            rcases List.mem_cons.1 hq with h | h
            · rw [h]; exact HAP.out
            · have h1 := HAP.out; have h2 := S.out.pl; have h3 := S.out.eb; have h4 := S.out.ez; have h5 := HBB.out; have h6 := List.mem_singleton.1 h; omega
          have HTW : Hid (UT w7) := HT.out.keepC S.out.chg HAP.out
          have HPG : Hid (∀ q ∈ [p, bi], q = p ∨ z < q) := fun q hq => by
            rcases List.mem_cons.1 hq with h | h
            · exact .inl h
            · right; rw [List.mem_singleton.1 h]; exact HBB.out
          clear hR HD0 HG2 HOF
          go_wp2_with fail
          go_loopw [15] (fun y wr => RkL (decF f) R0 w7 p bi { tag := T, typ := 1 } y wr) (fun y _ => lenOf y)
          case atStart => exact HK0.out
          case round =>
            as_aux_lemma =>
            clear HK0
            obtain ⟨a3, n3, c3, l3, s, acc, cnt3, g3, rfl, hg3, hlow, hs, hac, hc3, hgl, hrun⟩ := hrel.ex
            clear hrel
            have SK := hid hs; have HG := hid hg3; have HLW := hid hlow; have HAC := hid hac; have HC3 := hid hc3; have HGL := hid hgl; have HRUN := hid hrun
            have SR := hid (S.out.turn hs.chg HPG.out hs.cn)
            clear hs hg3 hlow hac hc3 hgl hrun
            have HLN3 := hid HG.out.rd.len
            by_cases h0 : n3 = 0
            · subst h0
              have hR0 : R0 = .ok (acc.map ItV.it) cnt3 := by
                have h1 : l3.length = 0 := HLN3.out
                rw [← HRUN.out]
                cases g3 with
                | zero => rfl
                | succ g => rw [kidsD, if_pos h1]
              have HNW := hid (HRW.out _ _ hR0)
              rw [hR0] at HD
              clear hR0
              have HD2 : Hid (decF (f + 1) l cnt = .ok ⟨T, 1, 0, [], acc.map ItV.it⟩ (l.drop N8) cnt3) := by
                show _ = _
                rw [HD.out]
                unfold strD
                dsimp only
                rw [up8_word HNW.out, Nat.sub_self, show padE (l.drop 8) 0 N = none from rfl, List.drop_drop, HN8.out]
              go_wp2_with (first | (refine wpList_load_row rfl 29 _ rfl bi rfl _ _ _ _ SK.out.blk Tryd.underlying29 rfl iSize ?_) | (refine wpList_store_obj rfl 29 _ _ rfl b rfl (ItV.arr { tag := T, typ := 1, ks := s, kids := acc }) rfl _ _ SR.out.rs rfl iSize (arr_one _) ?_; intro w10 hb10 hc10 hs10; have HB10 := hid hb10; have HC10 := hid hc10; clear hb10 hc10 hs10))
              refine bodyPost_ret (results_cell_tmp2 rfl _ _ b _ _ _ _ rfl HB10.out Tryd.underlying29 rfl iSize _ _ rfl rfl) rfl ?_
              unfold OneRes
              rw [HD2.out]
              have e1 := S.out.eb; have e2 := S.out.ez; have e3 := HBB.out; have e4 := block_lt HBI.out
              have hok : ({ tag := T, typ := 1, ks := s, kids := acc } : ItV).ok wr := ItV.ok_iff.2 ⟨SlC.nil _, SK.out.own.sl (by have h1 := HAC.out; have h2 := HC3.out; rw [← SK.out.own.len]; omega), SK.out.own.ok⟩
              have hfoot : ∀ k ∈ ItV.foot { tag := T, typ := 1, ks := s, kids := acc }, bi < k := fun k hk => by
                rcases ItV.mem_foot.1 hk with h' | h' | ⟨y, hy, h'⟩
                · simp [Sl.blk] at h'
                · have := SK.out.own.blk k h'; omega
                · have := SK.out.own.low y hy k h'; omega
              refine ⟨SR.out.done HC10.out, { tag := T, typ := 1, ks := s, kids := acc }, N8, rfl, rfl, by have := HN8.out; omega, by have h1 := HN8.out; have h2 := HNM.out; have h3 := HM.out; have h4 := HLN.out; have h5 := H8.out; omega, by rw [ItV.it_eq], hok.keep HC10.out (fun k hk hm => by have h1 := hfoot k hk; have h2 := List.mem_singleton.1 hm; omega), fun k hk => by have h1 := hfoot k hk; omega, ?_⟩
              exact (HC10.out.block p (block_lt SK.out.cn) (fun hm => by have h2 := List.mem_singleton.1 hm; have := S.out.pl; omega)).trans SK.out.cn
            · have hpos : (0 : Int) < (n3 : Int) := by omega
              have hne : l3.length ≠ 0 := by have := HLN3.out; omega
              obtain ⟨g4, rfl⟩ : ∃ g4, g3 = g4 + 1 := ⟨g3 - 1, by have := HGL.out; omega⟩
              have HRUN2 := hid HRUN.out
              rw [kidsD, if_neg hne] at HRUN2
              clear hne HRUN
              have HT2 : Hid (UT wr) := HTW.out.keepG SK.out.chg HAPB.out
              have hwd := HDW.out
              go_wp2_with fail
              refine (IH.out (dz + 1) HDZ.out.1 HDZ.out.2 a3 n3 c3 l3 cnt3 p wr HG.out (fun q off sp e hm => (HLW.out q off sp e).2.1 (List.mem_singleton.1 hm)) SK.out.cn HC3.out HT2.out).mono ?_
              intro e w3 hres
              unfold OneRes at hres
              obtain ⟨hch, hres⟩ := hres
              cases hd : decF f l3 cnt3 with
              | err zz =>
                rw [hd] at hres HRUN2
                dsimp only at HRUN2
                obtain ⟨rfl, hz⟩ := hres
                rw [← HRUN2.out] at HD
                unfold strD at HD
                dsimp only at HD ⊢
                have SF := hid (SR.out.toF.turn hch (fun q hq => .inl (List.mem_singleton.1 hq)))
                have hzz : (zz != 0) = true := by simpa using hz
                have HZ := hid hz
                clear hch hd hz hwd SK SR
                go_upto_region 45 with (first | (refine wpList_alloc_obj rfl 29 rfl _ iZero ?_) | (refine wpList_store_obj rfl 29 _ _ rfl w3.heap.size rfl itZ.arr rfl _ _ (block_new w3 _) rfl iSize (arr_one itZ) ?_; intro w5 hb5 hc5 hs5; have KB := hid hb5; have HC5 := hid hc5; clear hb5 hc5 hs5))
                have hbel : Below w3.heap.size w3 w5 := ((Below.refl _ w3).alloc (Nat.le_refl _) _).trans (HC5.out.below (fun k hk => by rw [List.mem_singleton.1 hk]; exact Nat.le_refl _) (by simp))
                have S9 := hid (SF.out.below hbel)
                clear SF hbel HC5 KB
                go_wp2_with (first | (refine wpList_load_row rfl 29 _ rfl z rfl _ _ _ _ S9.out.zs Tryd.underlying29 rfl iSize ?_) | (refine wpList_store_obj rfl 29 _ _ rfl b rfl itZ.arr rfl _ _ S9.out.rs rfl iSize (arr_one itZ) ?_; intro w10 hb10 hc10 hs10; have HB10 := hid hb10; have HC10 := hid hc10; clear hb10 hc10 hs10))
                refine bodyPost_ret (results_cell_tmp2 rfl _ _ b _ _ _ _ rfl HB10.out Tryd.underlying29 rfl iSize _ _ rfl rfl) rfl ?_
                unfold OneRes
                rw [HD.out]
                exact ⟨S9.out.done HC10.out, rfl, HZ.out⟩
              | ok x rst c5 =>
                rw [hd] at hres HRUN2
                dsimp only at HRUN2
                obtain ⟨v, mm, rfl, rfl, hm8, hml, hvi, hvok, hvf, hcn⟩ := hres
                dsimp only
                have HD3 := hid (decF_le f l3 cnt3 x _ c5 hd)
                have HVF := hid (fun k hk => Nat.le_trans SK.out.chg.size (hvf k hk))
                have HOLD : Hid (∀ q, s.v.ownBlock = some q → q < wr.heap.size) := fun q hq => (SK.out.own.own.lt q hq).2
                have HVA : Hid (∀ k ∈ v.foot, s.v.ownBlock ≠ some k) := fun k hk he => by have h1 := HOLD.out k he; have h2 := hvf k hk; omega
                have SK3 := hid (SK.out.turn hch hcn)
                have HG3 := hid (HG.out.keep hch (fun q off sp e hm => (HLW.out q off sp e).2.1 (List.mem_singleton.1 hm)))
                obtain ⟨a4, ha4, hg4, hof4⟩ := HG3.out.drop (k := mm) (by have := HLN3.out; omega)
                have HG4 := hid hg4
                have hsl : ∀ w, (Instr.slice 23 (.slice a3 n3 c3) (some (.int .i64 (mm : Int))) none none).run Tryd.prog w = .ok (.slice a4 (n3 - mm) (c3 - mm)) w := fun w => by rw [← ha4]; exact run_slice_back (P := Tryd.prog) 23 5 1 Tryd.underlying23 (fun w => by kernel_rfl) a3 n3 c3 mm (by have := HLN3.out; omega) w
                have HSL := hid hsl
                have HLW4 : Hid (∀ q off sp, a4 = some ⟨q, off, sp⟩ → q < w7.heap.size ∧ q ≠ p ∧ q ≠ bi) := fun q off sp e => by
                  obtain ⟨off', sp', e'⟩ := hof4 q off sp e
                  exact HLW.out q off' sp' e'
                have HGL2 : Hid ((l3.drop mm).length ≤ g4 ∧ n3 - mm < n3) := by have h1 := HGL.out; have h2 := HLN3.out; refine ⟨?_, by omega⟩; rw [List.length_drop]; omega
                have HVI := hid hvi; have HVO := hid hvok
                clear hch hd hvi hvok hvf hg4 ha4 hof4 hcn hm8 hml hsl SK SR HG HG3 HLW HT2 HGL hwd HOLD
                go_upto_region 47 with (first | (refine wpList_alloc_obj rfl 29 rfl _ iZero ?_) | (refine wpList_store_obj rfl 29 _ _ rfl w3.heap.size rfl v.arr rfl _ _ (block_new w3 _) rfl iSize (arr_one v) ?_; intro w5 hb5 hc5 hs5; have KB := hid hb5; have HC5 := hid hc5; clear hb5 hc5 hs5))
                have hbel : Below w3.heap.size w3 w5 := ((Below.refl _ w3).alloc (Nat.le_refl _) _).trans (HC5.out.below (fun k hk => by rw [List.mem_singleton.1 hk]; exact Nat.le_refl _) (by simp))
                have SK5 := hid (SK3.out.below hbel)
                have HV5 := hid (HVO.out.below hbel)
                have HG5 := hid (HG4.out.below hbel)
                clear hbel HC5 SK3 HVO HG4
                generalize w3.heap.size = kb at *
                obtain ⟨i, hi, hz0, hz1, hz2⟩ := info_parts iInfo
                have hco4 := cell_of_block (j := 4) SK5.out.blk (ar4 _)
                have HKS := hid SK5.out.chg.size
                go_upto_region 48 with (first | (refine wpList_load_row rfl 29 _ rfl kb rfl _ _ _ _ KB.out Tryd.underlying29 rfl iSize ?_) | (refine wpList_build_item rfl 27 29 _ rfl v rfl i Tryd.underlying27 hi hz0 hz1 ?_; have hbl6 : Below w5.heap.size w5 (w5.alloc (.cells v.arr 29)) := (Below.refl _ w5).alloc (Nat.le_refl _) _; have HPB6 := hid (block_new w5 (.cells v.arr 29)); have S6 := hid (SK5.out.below hbl6); have HV6 := hid (HV5.out.below hbl6); have HG6 := hid (HG5.out.below hbl6); clear hco4 hbl6) | (at_builtin; refine wpList_append_c rfl _ _ 27 rfl w7.heap.size 29 i _ 5 72 Tryd.underlying27 hi hz0 hz1 hz2 rfl (by decide) (.slice s.a s.n s.c) s.n _ rfl S6.out.own.own _ 1 _ v.arr.toList rfl (RdC.of_block HPB6.out) (by have := itm_one [v]; simpa [itmCells, ItV.cells] using this) (fun hx => by cases hx) (by have h1 := S6.out.own.len; have h2 := HAC.out; have h3 := HC3.out; unfold maxLen; omega) (by have h1 := S6.out.own.len; have h2 := HAC.out; have h3 := HC3.out; omega) (S6.out.chg.size) ?_; intro a' c' w8 hown hgw hfr; have HOW := hid hown; have HGW := hid hgw; have HFR := hid hfr; have HBL8 := hid (((Chg.refl s.v.ownBlock.toList _).grown hgw (fun k hk => .inl (by rw [show s.v.ownBlock = some k from hk]; simp))).block bi (block_lt S6.out.blk) (fun hm => by cases hv : s.v.ownBlock with | none => (rw [hv] at hm; cases hm) | some q => (rw [hv] at hm; simp at hm; have := (S6.out.own.own.lt q hv).1; have := S6.out.bl; omega)) |>.trans S6.out.blk); have hco := cell_of_block (j := 4) HBL8.out (ar4 _); have hfz : ∀ j, w8.frozen? ⟨bi, j, none⟩ = false := fun j => frozen_of_block HBL8.out; clear hown hgw hfr))
                clear HKS KB SK5 HV5 HG5
                have hset : Chg [bi] w8 (w8.setCell ⟨bi, 4, none⟩ (.slice a' (s.n + 1) c')) := (Chg.refl [bi] w8).setCell (.inl (by simp)) _
                have HCS : Hid (Chg (bi :: s.v.ownBlock.toList) _ (w8.setCell ⟨bi, 4, none⟩ (.slice a' (s.n + 1) c'))) := (((Chg.refl s.v.ownBlock.toList _).grown HGW.out (fun k hk => .inl (by rw [show s.v.ownBlock = some k from hk]; simp))).mono (fun q hq => List.mem_cons_of_mem _ hq)).trans hset (fun q hq => by rw [List.mem_singleton.1 hq]; exact .inl (by simp))
                have HOS := hid (hset.owns HOW.out (fun q hq hm => by have h1 := (HOW.out.lt q hq).1; have h2 := S6.out.bl; have h3 := List.mem_singleton.1 hm; omega))
                have HBS := hid (block_setCell (j := 4) HBL8.out (.slice a' (s.n + 1) c'))
                have S9 := hid (S6.out.push (kid := v) HV6.out HVF.out HVA.out HCS.out HBS.out (by rw [itm_app]; simpa [itmCells, ItV.cells] using HOS.out) HFR.out)
                have HG9 := hid (HG6.out.keep HCS.out (fun q off sp e hm => by
                  have h4 := HLW4.out q off sp e
                  rcases List.mem_cons.1 hm with h' | h'
                  · exact h4.2.2 h'
                  · exact S6.out.own.ahead h4.1 h'))
                have HRR0 : Hid (RkL (decF f) R0 w7 p bi { tag := T, typ := 1 } (.slice a4 (n3 - mm) (c3 - mm)) (w8.setCell ⟨bi, 4, none⟩ (.slice a' (s.n + 1) c'))) := by
                  have hd := HD3.out; have hac := HAC.out
                  refine ⟨a4, n3 - mm, c3 - mm, l3.drop mm, ⟨a', s.n + 1, c'⟩, acc ++ [v], c5, g4, rfl, HG9.out, HLW4.out, S9.out, ?_, hd.1.2, HGL2.out.1, ?_⟩
                  · simp only [List.length_append, List.length_cons, List.length_nil]; omega
                  · rw [List.map_append, List.map_cons, List.map_nil, HVI.out]; exact HRUN2.out
                clear hset HCS HOS HBS S9 HG9 HOW HGW HFR HBL8 hco hfz S6 HV6 HG6 HPB6
                generalize w8.setCell ⟨bi, 4, none⟩ (.slice a' (s.n + 1) c') = w9 at *
                have hsl := HSL.out
                go_wp2_with fail
                clear hsl
                have HRR := HRR0.out
                go_roundw
                case rel => first | exact HRR | ((repeat apply Exists.intro); exact HRR) | ((repeat apply Exists.intro); exact ⟨HRR, rfl⟩)
                case measure => (have := HGL2.out.2; simp [lenOf] <;> omega)
        · go_cut [] (fun wx => ∃ (v : ItV) (n0 : Int) (d : List UInt8), bodyD (decF f) K Bd (cnt + 1) = .ok n0 d [] (cnt + 1) ∧ v.it = ⟨T, K, n0, d, []⟩ ∧ wx.heap[bi]? = some (.cells v.arr 29 (0, 0)) ∧ v.ok wx ∧ (∀ k ∈ v.foot, bi < k) ∧ RoSt w wx b z p (cnt + 1))
          case first =>
            have HKR : K = 2 ∨ K = 3 ∨ K = 4 ∨ K = 5 ∨ K = 6 ∨ K = 7 ∨ K = 8 ∨ K = 9 ∨ K = 10 := by omega
            have HBS := hid (block_lt HBI.out)
            clear q3 q4 k1
            rcases HKR with rfl | rfl | rfl | rfl | rfl | rfl | rfl | rfl | rfl
            · as_aux_lemma =>
              have hN : N = 4 := by have h := HOF.out; simpa [ofB, isD, isS] using h
              have hNb : ((N : Int) == 4) = true := by rw [hN]; rfl
              clear hN
              go_upto_region 35 with (fail)
              have HQ : Hid (RdS 100 (w7.alloc (.cells #[.slice a2 N cm, .bool false] 100)) w7.heap.size (Bd, false) (w7.heap.size :: (a2.map (·.block)).toList)) := RdS.new HG2.out
              have hbel : Below w7.heap.size w7 (w7.alloc (.cells #[.slice a2 N cm, .bool false] 100)) := (Below.refl _ w7).alloc (Nat.le_refl _) _
              have S2 := hid (S.out.below hbel)
              have HB2 := hid ((hbel.block _ (block_lt HBI.out)).trans HBI.out)
              clear S hbel HBI
              generalize w7.alloc (.cells #[.slice a2 N cm, .bool false] 100) = w8 at *
              obtain ⟨r2, hr2⟩ : ∃ r2, r2 = w7.heap.size := ⟨_, rfl⟩
              rw [← hr2] at HQ HBS ⊢
              clear hr2
              generalize r2 :: (a2.map (·.block)).toList = FQ2 at *
              go_wp2_with fail
              refine (srU32_any r2 _ FQ2 _ HQ.out).mono ?_
              rintro e w9 ⟨rfl, hc3, hq3⟩
              dsimp only
              have S3 := hid (S2.out.keep hc3 (fun k hk => by rw [List.mem_singleton.1 hk]; have h1 := HBB.out; have h2 := HBS.out; omega))
              have HB3 := hid ((hc3.block _ (block_lt HB2.out) (fun hm => by have h1 := HBS.out; have h2 := List.mem_singleton.1 hm; omega)).trans HB2.out)
              clear S2 HB2 HQ hc3 hq3
              obtain ⟨y, hy⟩ : ∃ y, y = (pI 4 (Bd, false)).1 := ⟨_, rfl⟩
              rw [← hy]
              have HY := hid hy
              clear hy
              have d2 := cell_of_block (j := 2) HB3.out (ar2 _)
              have hfz := fun j => frozen_of_block (j := j) HB3.out
              go_upto_region 37 with (fail)
              have HB4 : Hid ((w9.setCell ⟨bi, 2, none⟩ (.int .i64 y)).heap[bi]? = some (.cells (ItV.arr { tag := T, typ := 2, int := y }) 29 (0, 0))) := block_setCell (j := 2) HB3.out _
              have S4 := hid (S3.out.keep ((Chg.refl [bi] w9).setCell (.inl (by simp)) _ : Chg [bi] w9 (w9.setCell ⟨bi, 2, none⟩ (.int .i64 y))) (fun q hq => by rw [List.mem_singleton.1 hq]; exact HBB.out))
              clear S3 HB3 d2 hfz
              generalize w9.setCell ⟨bi, 2, none⟩ (.int .i64 y) = w10' at *
              have HYR : Hid (0 ≤ y ∧ y < 4294967296) := by have h := pI4_range (Bd, false); rw [← HY.out] at h; exact h
              have d2 : w10'.cell? ⟨bi, 2, none⟩ = some (.int .i64 y) := cell_of_block (j := 2) HB4.out (ar2 _)
              have hfz := fun j => frozen_of_block (j := j) HB4.out
              by_cases hb : 2147483648 ≤ y
              · have hsb : IntKind.i64.wrap (y - 4294967296) = y - 4294967296 := IntWalk.i64_in _ (by have := HYR.out; omega)
                go_upto_region 38 with (fail)
                go_upto_region 40 with (fail)
                have HB5 : Hid ((w10'.setCell ⟨bi, 2, none⟩ (.int .i64 (y - 4294967296))).heap[bi]? = some (.cells (ItV.arr { tag := T, typ := 2, int := y - 4294967296 }) 29 (0, 0))) := block_setCell (j := 2) HB4.out _
                have S5 := hid (S4.out.keep ((Chg.refl [bi] w10').setCell (.inl (by simp)) _ : Chg [bi] w10' (w10'.setCell ⟨bi, 2, none⟩ (.int .i64 (y - 4294967296)))) (fun q hq => by rw [List.mem_singleton.1 hq]; exact HBB.out))
                clear S4 HB4 d2 hfz hsb
                generalize w10'.setCell ⟨bi, 2, none⟩ (.int .i64 (y - 4294967296)) = w11 at *
                have HBO : Hid (bodyD (decF f) 2 Bd (cnt + 1) = .ok (y - 4294967296) [] [] (cnt + 1)) := by show _ = _; unfold bodyD; rw [if_neg (by decide), if_neg (by decide), if_pos (by decide), shortV_ref, ← HY.out]; rw [if_pos rfl, if_pos hb]
                have HVI : Hid (ItV.it { tag := T, typ := 2, int := (y - 4294967296) } = ⟨T, 2, (y - 4294967296), [], []⟩) := by show _ = _; rw [ItV.it_eq]; rfl
                go_wp2_with fail
                go_meet
                exact ⟨{ tag := T, typ := 2, int := (y - 4294967296) }, (y - 4294967296), [], HBO.out, HVI.out, HB5.out, ItV.ok_iff.2 ⟨SlC.nil _, SlR.nil _ _, fun x hx => by cases hx⟩, no_foot rfl rfl rfl, S5.out⟩
              · have HBO : Hid (bodyD (decF f) 2 Bd (cnt + 1) = .ok y [] [] (cnt + 1)) := by show _ = _; unfold bodyD; rw [if_neg (by decide), if_neg (by decide), if_pos (by decide), shortV_ref, ← HY.out]; rw [if_pos rfl, if_neg hb]
                have HVI : Hid (ItV.it { tag := T, typ := 2, int := y } = ⟨T, 2, y, [], []⟩) := by show _ = _; rw [ItV.it_eq]; rfl
                go_wp2_with fail
                go_meet
                exact ⟨{ tag := T, typ := 2, int := y }, y, [], HBO.out, HVI.out, HB4.out, ItV.ok_iff.2 ⟨SlC.nil _, SlR.nil _ _, fun x hx => by cases hx⟩, no_foot rfl rfl rfl, S4.out⟩
            · as_aux_lemma =>
              have hN : N = 8 := by have h := HOF.out; simpa [ofB, isD, isS] using h
              have hNb : ((N : Int) == 4) = false := by rw [hN]; rfl
              clear hN
              go_upto_region 35 with (fail)
              have HQ : Hid (RdS 100 (w7.alloc (.cells #[.slice a2 N cm, .bool false] 100)) w7.heap.size (Bd, false) (w7.heap.size :: (a2.map (·.block)).toList)) := RdS.new HG2.out
              have hbel : Below w7.heap.size w7 (w7.alloc (.cells #[.slice a2 N cm, .bool false] 100)) := (Below.refl _ w7).alloc (Nat.le_refl _) _
              have S2 := hid (S.out.below hbel)
              have HB2 := hid ((hbel.block _ (block_lt HBI.out)).trans HBI.out)
              clear S hbel HBI
              generalize w7.alloc (.cells #[.slice a2 N cm, .bool false] 100) = w8 at *
              obtain ⟨r2, hr2⟩ : ∃ r2, r2 = w7.heap.size := ⟨_, rfl⟩
              rw [← hr2] at HQ HBS ⊢
              clear hr2
              generalize r2 :: (a2.map (·.block)).toList = FQ2 at *
              go_wp2_with fail
              refine (srU64_any r2 _ FQ2 _ HQ.out).mono ?_
              rintro e w9 ⟨rfl, hc3, hq3⟩
              dsimp only
              have S3 := hid (S2.out.keep hc3 (fun k hk => by rw [List.mem_singleton.1 hk]; have h1 := HBB.out; have h2 := HBS.out; omega))
              have HB3 := hid ((hc3.block _ (block_lt HB2.out) (fun hm => by have h1 := HBS.out; have h2 := List.mem_singleton.1 hm; omega)).trans HB2.out)
              clear S2 HB2 HQ hc3 hq3
              obtain ⟨y, hy⟩ : ∃ y, y = (pI 8 (Bd, false)).1 := ⟨_, rfl⟩
              have HAS : Hid (wrap64 ((num (taken Bd false 8) : Nat) : Int) = y) := by show _ = _; rw [hy]; exact asInt_eq _
              have HY := hid hy
              clear hy
              have d2 := cell_of_block (j := 2) HB3.out (ar2 _)
              have hfz := fun j => frozen_of_block (j := j) HB3.out
              go_upto_region 40 with (fail)
              rw [HAS.out]
              clear HAS
              have HB4 : Hid ((w9.setCell ⟨bi, 2, none⟩ (.int .i64 y)).heap[bi]? = some (.cells (ItV.arr { tag := T, typ := 3, int := y }) 29 (0, 0))) := block_setCell (j := 2) HB3.out _
              have S4 := hid (S3.out.keep ((Chg.refl [bi] w9).setCell (.inl (by simp)) _ : Chg [bi] w9 (w9.setCell ⟨bi, 2, none⟩ (.int .i64 y))) (fun q hq => by rw [List.mem_singleton.1 hq]; exact HBB.out))
              clear S3 HB3 d2 hfz
              generalize w9.setCell ⟨bi, 2, none⟩ (.int .i64 y) = w10' at *
              have HBO : Hid (bodyD (decF f) 3 Bd (cnt + 1) = .ok y [] [] (cnt + 1)) := by show _ = _; unfold bodyD; rw [if_neg (by decide), if_neg (by decide), if_neg (by decide), ← HY.out, if_pos (by rfl)]
              have HVI : Hid (ItV.it { tag := T, typ := 3, int := y } = ⟨T, 3, y, [], []⟩) := by show _ = _; rw [ItV.it_eq]; rfl
              go_wp2_with fail
              go_meet
              exact ⟨{ tag := T, typ := 3, int := y }, y, [], HBO.out, HVI.out, HB4.out, ItV.ok_iff.2 ⟨SlC.nil _, SlR.nil _ _, fun x hx => by cases hx⟩, no_foot rfl rfl rfl, S4.out⟩
            · as_aux_lemma =>
              obtain ⟨ib, hib, hbz0, hbz1, hbz2⟩ := info_parts infoB
              go_upto_region 54 with (at_builtin; refine wpList_append_bytes rfl _ _ 23 rfl w7.heap.size 5 ib _ Tryd.underlying23 hib hbz0 hbz1 hbz2 rfl _ 0 [] rfl (World.ownsRow_made w7 #[] 0 (Nat.le_refl _) (by unfold maxLen; omega) rfl) _ _ _ _ rfl (HG2.out.rd.below (Below.alloc (Below.refl _ _) (Nat.le_refl _) _)) HG2.out.no (by have := HG2.out.le; omega) (by simp) ?_; intro a' c' w8 hown hgw; have HOW := hid hown; have HB8 : Hid (Below w7.heap.size w7 w8) := ((Below.refl _ _).alloc (Nat.le_refl _) _).grown hgw (by simp) (by intro q hq; cases hq; exact Nat.le_refl _); have HBI8 := hid ((HB8.out.block _ (block_lt HBI.out)).trans HBI.out); have hco := cell_of_block (j := 3) HBI8.out (ar3 _); have hfz : ∀ j, w8.frozen? ⟨bi, j, none⟩ = false := fun j => frozen_of_block HBI8.out; clear hown hgw)
              clear hco hfz
              rw [Nat.zero_add, List.nil_append] at HOW
              try rw [Nat.zero_add]
              have hset : Chg [bi] w8 (w8.setCell ⟨bi, 3, none⟩ (.slice a' N c')) := (Chg.refl [bi] w8).setCell (.inl (by simp)) _
              have HBLK := hid (fun q hq => blk_own (s := ⟨a', N, c'⟩) HOW.out q hq)
              have HSC := hid ((SlC.of_own (s := ⟨a', N, c'⟩) HOW.out (by have := HG2.out.le; show N ≤ _; omega)).keep hset (fun q hq hm => by have h1 := HBLK.out q hq; have h2 := HBS.out; have h3 := List.mem_singleton.1 hm; omega))
              have HB9 : Hid ((w8.setCell ⟨bi, 3, none⟩ (.slice a' N c')).heap[bi]? = some (.cells (ItV.arr { tag := T, typ := 4, data := Bd, ds := ⟨a', N, c'⟩ }) 29 (0, 0))) := block_setCell (j := 3) HBI8.out _
              have S9 := hid ((S.out.below HB8.out).keep hset (fun q hq => by rw [List.mem_singleton.1 hq]; exact HBB.out))
              have HG9 := hid ((HG2.out.below HB8.out).keep hset (fun q off sp e hm => by have h1 := (HOF2.out q off sp e).1; have h2 := List.mem_singleton.1 hm; have h3 := HBB.out; have h4 := S.out.ez; omega))
              have HFT : Hid (∀ q ∈ ItV.foot { tag := T, typ := 4, data := Bd, ds := ⟨a', N, c'⟩ }, bi < q) := fun q hq => by
                rcases ItV.mem_foot.1 hq with h | h | ⟨x, hx, h⟩
                · have h1 := HBLK.out q h; have h2 := HBS.out; omega
                · simp [Sl.blk] at h
                · cases hx
              have HVI : Hid (ItV.it { tag := T, typ := 4, data := Bd, ds := ⟨a', N, c'⟩ } = ⟨T, 4, 0, Bd, []⟩) := by show _ = _; rw [ItV.it_eq]; rfl
              clear hset HOW HBLK HB8 HBI8 HBI S
              generalize w8.setCell ⟨bi, 3, none⟩ (.slice a' N c') = w9 at *
              have HBO : Hid (bodyD (decF f) 4 Bd (cnt + 1) = .ok 0 Bd [] (cnt + 1)) := by show _ = _; unfold bodyD; rw [if_neg (by decide), if_pos (by decide), if_pos (by have h1 := HOF.out; have h2 := HBL.out; unfold datB; rw [if_pos rfl, h2]; simpa [ofB] using h1)]
              go_wp2_with fail
              go_meet
              exact ⟨{ tag := T, typ := 4, data := Bd, ds := ⟨a', N, c'⟩ }, 0, Bd, HBO.out, HVI.out, HB9.out, ItV.ok_iff.2 ⟨HSC.out, SlR.nil _ _, fun x hx => by cases hx⟩, HFT.out, S9.out⟩
            · as_aux_lemma =>
              have hN : N = 4 := by have h := HOF.out; simpa [ofB, isD, isS] using h
              have hNb : ((N : Int) == 4) = true := by rw [hN]; rfl
              clear hN
              go_upto_region 35 with (fail)
              have HQ : Hid (RdS 100 (w7.alloc (.cells #[.slice a2 N cm, .bool false] 100)) w7.heap.size (Bd, false) (w7.heap.size :: (a2.map (·.block)).toList)) := RdS.new HG2.out
              have hbel : Below w7.heap.size w7 (w7.alloc (.cells #[.slice a2 N cm, .bool false] 100)) := (Below.refl _ w7).alloc (Nat.le_refl _) _
              have S2 := hid (S.out.below hbel)
              have HB2 := hid ((hbel.block _ (block_lt HBI.out)).trans HBI.out)
              clear S hbel HBI
              generalize w7.alloc (.cells #[.slice a2 N cm, .bool false] 100) = w8 at *
              obtain ⟨r2, hr2⟩ : ∃ r2, r2 = w7.heap.size := ⟨_, rfl⟩
              rw [← hr2] at HQ HBS ⊢
              clear hr2
              generalize r2 :: (a2.map (·.block)).toList = FQ2 at *
              go_wp2_with fail
              refine (srU32_any r2 _ FQ2 _ HQ.out).mono ?_
              rintro e w9 ⟨rfl, hc3, hq3⟩
              dsimp only
              have S3 := hid (S2.out.keep hc3 (fun k hk => by rw [List.mem_singleton.1 hk]; have h1 := HBB.out; have h2 := HBS.out; omega))
              have HB3 := hid ((hc3.block _ (block_lt HB2.out) (fun hm => by have h1 := HBS.out; have h2 := List.mem_singleton.1 hm; omega)).trans HB2.out)
              clear S2 HB2 HQ hc3 hq3
              obtain ⟨y, hy⟩ : ∃ y, y = (pI 4 (Bd, false)).1 := ⟨_, rfl⟩
              rw [← hy]
              have HY := hid hy
              clear hy
              have d2 := cell_of_block (j := 2) HB3.out (ar2 _)
              have hfz := fun j => frozen_of_block (j := j) HB3.out
              go_upto_region 37 with (fail)
              have HB4 : Hid ((w9.setCell ⟨bi, 2, none⟩ (.int .i64 y)).heap[bi]? = some (.cells (ItV.arr { tag := T, typ := 5, int := y }) 29 (0, 0))) := block_setCell (j := 2) HB3.out _
              have S4 := hid (S3.out.keep ((Chg.refl [bi] w9).setCell (.inl (by simp)) _ : Chg [bi] w9 (w9.setCell ⟨bi, 2, none⟩ (.int .i64 y))) (fun q hq => by rw [List.mem_singleton.1 hq]; exact HBB.out))
              clear S3 HB3 d2 hfz
              generalize w9.setCell ⟨bi, 2, none⟩ (.int .i64 y) = w10' at *
              have HBO : Hid (bodyD (decF f) 5 Bd (cnt + 1) = .ok y [] [] (cnt + 1)) := by show _ = _; unfold bodyD; rw [if_neg (by decide), if_neg (by decide), if_pos (by decide), shortV_ref, ← HY.out]; rw [if_neg (by decide)]
              have HVI : Hid (ItV.it { tag := T, typ := 5, int := y } = ⟨T, 5, y, [], []⟩) := by show _ = _; rw [ItV.it_eq]; rfl
              go_wp2_with fail
              go_meet
              exact ⟨{ tag := T, typ := 5, int := y }, y, [], HBO.out, HVI.out, HB4.out, ItV.ok_iff.2 ⟨SlC.nil _, SlR.nil _ _, fun x hx => by cases hx⟩, no_foot rfl rfl rfl, S4.out⟩
            · as_aux_lemma =>
              have hN : N = 8 := by have h := HOF.out; simpa [ofB, isD, isS] using h
              have hNb : ((N : Int) == 4) = false := by rw [hN]; rfl
              clear hN
              go_upto_region 35 with (fail)
              have HQ : Hid (RdS 100 (w7.alloc (.cells #[.slice a2 N cm, .bool false] 100)) w7.heap.size (Bd, false) (w7.heap.size :: (a2.map (·.block)).toList)) := RdS.new HG2.out
              have hbel : Below w7.heap.size w7 (w7.alloc (.cells #[.slice a2 N cm, .bool false] 100)) := (Below.refl _ w7).alloc (Nat.le_refl _) _
              have S2 := hid (S.out.below hbel)
              have HB2 := hid ((hbel.block _ (block_lt HBI.out)).trans HBI.out)
              clear S hbel HBI
              generalize w7.alloc (.cells #[.slice a2 N cm, .bool false] 100) = w8 at *
              obtain ⟨r2, hr2⟩ : ∃ r2, r2 = w7.heap.size := ⟨_, rfl⟩
              rw [← hr2] at HQ HBS ⊢
              clear hr2
              generalize r2 :: (a2.map (·.block)).toList = FQ2 at *
              go_wp2_with fail
              refine (srU64_any r2 _ FQ2 _ HQ.out).mono ?_
              rintro e w9 ⟨rfl, hc3, hq3⟩
              dsimp only
              have S3 := hid (S2.out.keep hc3 (fun k hk => by rw [List.mem_singleton.1 hk]; have h1 := HBB.out; have h2 := HBS.out; omega))
              have HB3 := hid ((hc3.block _ (block_lt HB2.out) (fun hm => by have h1 := HBS.out; have h2 := List.mem_singleton.1 hm; omega)).trans HB2.out)
              clear S2 HB2 HQ hc3 hq3
              obtain ⟨y, hy⟩ : ∃ y, y = (pI 8 (Bd, false)).1 := ⟨_, rfl⟩
              have HAS : Hid (wrap64 ((num (taken Bd false 8) : Nat) : Int) = y) := by show _ = _; rw [hy]; exact asInt_eq _
              have HY := hid hy
              clear hy
              have d2 := cell_of_block (j := 2) HB3.out (ar2 _)
              have hfz := fun j => frozen_of_block (j := j) HB3.out
              go_upto_region 40 with (fail)
              rw [HAS.out]
              clear HAS
              have HB4 : Hid ((w9.setCell ⟨bi, 2, none⟩ (.int .i64 y)).heap[bi]? = some (.cells (ItV.arr { tag := T, typ := 6, int := y }) 29 (0, 0))) := block_setCell (j := 2) HB3.out _
              have S4 := hid (S3.out.keep ((Chg.refl [bi] w9).setCell (.inl (by simp)) _ : Chg [bi] w9 (w9.setCell ⟨bi, 2, none⟩ (.int .i64 y))) (fun q hq => by rw [List.mem_singleton.1 hq]; exact HBB.out))
              clear S3 HB3 d2 hfz
              generalize w9.setCell ⟨bi, 2, none⟩ (.int .i64 y) = w10' at *
              have d2 : w10'.cell? ⟨bi, 2, none⟩ = some (.int .i64 y) := cell_of_block (j := 2) HB4.out (ar2 _)
              have hfz := fun j => frozen_of_block (j := j) HB4.out
              by_cases hy0 : y = 0
              · have hyb : (y != 0) = false := by rw [hy0]; rfl
                have HBO : Hid (bodyD (decF f) 6 Bd (cnt + 1) = .ok y [] [] (cnt + 1)) := by show _ = _; unfold bodyD; rw [if_neg (by decide), if_neg (by decide), if_neg (by decide), ← HY.out, if_pos (by rw [hy0]; rfl)]
                have HVI : Hid (ItV.it { tag := T, typ := 6, int := y } = ⟨T, 6, y, [], []⟩) := by show _ = _; rw [ItV.it_eq]; rfl
                go_wp2_with fail
                go_meet
                exact ⟨{ tag := T, typ := 6, int := y }, y, [], HBO.out, HVI.out, HB4.out, ItV.ok_iff.2 ⟨SlC.nil _, SlR.nil _ _, fun x hx => by cases hx⟩, no_foot rfl rfl rfl, S4.out⟩
              have hyb : (y != 0) = true := by rw [bne_iff_ne]; exact hy0
              by_cases hy1 : y = 1
              · have hyb1 : (y != 1) = false := by rw [hy1]; rfl
                have HBO : Hid (bodyD (decF f) 6 Bd (cnt + 1) = .ok y [] [] (cnt + 1)) := by show _ = _; unfold bodyD; rw [if_neg (by decide), if_neg (by decide), if_neg (by decide), ← HY.out, if_pos (by rw [hy1]; rfl)]
                have HVI : Hid (ItV.it { tag := T, typ := 6, int := y } = ⟨T, 6, y, [], []⟩) := by show _ = _; rw [ItV.it_eq]; rfl
                go_wp2_with fail
                go_meet
                exact ⟨{ tag := T, typ := 6, int := y }, y, [], HBO.out, HVI.out, HB4.out, ItV.ok_iff.2 ⟨SlC.nil _, SlR.nil _ _, fun x hx => by cases hx⟩, no_foot rfl rfl rfl, S4.out⟩
              have hyb1 : (y != 1) = true := by rw [bne_iff_ne]; exact hy1
              have hbo : bodyD (decF f) 6 Bd (cnt + 1) = .err 5 := by unfold bodyD; rw [if_neg (by decide), if_neg (by decide), if_neg (by decide), ← HY.out, if_neg (by unfold numB; rw [if_neg (by decide), if_neg (by decide), if_pos rfl, beq_eq_false_iff_ne.2 hy0, beq_eq_false_iff_ne.2 hy1]; decide)]
              rw [hbo] at HD0
              dsimp only at HD0
              clear hbo
              go_wp2_with (first | (refine wpList_load_row rfl 29 _ rfl z rfl _ _ _ _ S4.out.zs Tryd.underlying29 rfl iSize ?_) | (refine wpList_store_obj rfl 29 _ _ rfl b rfl itZ.arr rfl _ _ S4.out.rs rfl iSize (arr_one itZ) ?_; intro w10 hb10 hc10 hs10; have HB10 := hid hb10; have HC10 := hid hc10; clear hb10 hc10 hs10))
              refine bodyPost_ret (results_cell_tmp2 rfl _ _ b _ _ _ _ rfl HB10.out Tryd.underlying29 rfl iSize _ _ rfl rfl) rfl ?_
              unfold OneRes
              rw [HD0.out]
              exact ⟨S4.out.done HC10.out, rfl, by decide⟩
            · as_aux_lemma =>
              obtain ⟨ib, hib, hbz0, hbz1, hbz2⟩ := info_parts infoB
              go_upto_region 54 with (at_builtin; refine wpList_append_bytes rfl _ _ 23 rfl w7.heap.size 5 ib _ Tryd.underlying23 hib hbz0 hbz1 hbz2 rfl _ 0 [] rfl (World.ownsRow_made w7 #[] 0 (Nat.le_refl _) (by unfold maxLen; omega) rfl) _ _ _ _ rfl (HG2.out.rd.below (Below.alloc (Below.refl _ _) (Nat.le_refl _) _)) HG2.out.no (by have := HG2.out.le; omega) (by simp) ?_; intro a' c' w8 hown hgw; have HOW := hid hown; have HB8 : Hid (Below w7.heap.size w7 w8) := ((Below.refl _ _).alloc (Nat.le_refl _) _).grown hgw (by simp) (by intro q hq; cases hq; exact Nat.le_refl _); have HBI8 := hid ((HB8.out.block _ (block_lt HBI.out)).trans HBI.out); have hco := cell_of_block (j := 3) HBI8.out (ar3 _); have hfz : ∀ j, w8.frozen? ⟨bi, j, none⟩ = false := fun j => frozen_of_block HBI8.out; clear hown hgw)
              clear hco hfz
              rw [Nat.zero_add, List.nil_append] at HOW
              try rw [Nat.zero_add]
              have hset : Chg [bi] w8 (w8.setCell ⟨bi, 3, none⟩ (.slice a' N c')) := (Chg.refl [bi] w8).setCell (.inl (by simp)) _
              have HBLK := hid (fun q hq => blk_own (s := ⟨a', N, c'⟩) HOW.out q hq)
              have HSC := hid ((SlC.of_own (s := ⟨a', N, c'⟩) HOW.out (by have := HG2.out.le; show N ≤ _; omega)).keep hset (fun q hq hm => by have h1 := HBLK.out q hq; have h2 := HBS.out; have h3 := List.mem_singleton.1 hm; omega))
              have HB9 : Hid ((w8.setCell ⟨bi, 3, none⟩ (.slice a' N c')).heap[bi]? = some (.cells (ItV.arr { tag := T, typ := 7, data := Bd, ds := ⟨a', N, c'⟩ }) 29 (0, 0))) := block_setCell (j := 3) HBI8.out _
              have S9 := hid ((S.out.below HB8.out).keep hset (fun q hq => by rw [List.mem_singleton.1 hq]; exact HBB.out))
              have HG9 := hid ((HG2.out.below HB8.out).keep hset (fun q off sp e hm => by have h1 := (HOF2.out q off sp e).1; have h2 := List.mem_singleton.1 hm; have h3 := HBB.out; have h4 := S.out.ez; omega))
              have HFT : Hid (∀ q ∈ ItV.foot { tag := T, typ := 7, data := Bd, ds := ⟨a', N, c'⟩ }, bi < q) := fun q hq => by
                rcases ItV.mem_foot.1 hq with h | h | ⟨x, hx, h⟩
                · have h1 := HBLK.out q h; have h2 := HBS.out; omega
                · simp [Sl.blk] at h
                · cases hx
              have HVI : Hid (ItV.it { tag := T, typ := 7, data := Bd, ds := ⟨a', N, c'⟩ } = ⟨T, 7, 0, Bd, []⟩) := by show _ = _; rw [ItV.it_eq]; rfl
              clear hset HOW HBLK HB8 HBI8 HBI S
              generalize w8.setCell ⟨bi, 3, none⟩ (.slice a' N c') = w9 at *
              have rc := run_bytes_str (P := Tryd.prog) HG9.out.rd cm 23 9 5 Tryd.underlying23 Tryd.underlying5 Tryd.underlying9
              have HTW : Hid (UT w9) := HT.out.keepC S9.out.chg HAP.out
              go_wp2_with fail
              refine (valid_any ⟨Bd.toArray⟩ _ (by have h1 := HBL.out; have h2 := HG9.out.le; show Bd.toArray.size ≤ _; simp; omega) HTW.out).mono ?_
              rintro e w10 ⟨rfl, hb3⟩
              dsimp only
              have S10 := hid (S9.out.below hb3)
              have HB10' := hid ((hb3.block _ (block_lt HB9.out)).trans HB9.out)
              have HSC10 := hid (HSC.out.below hb3)
              clear hb3 rc S9 HB9 HSC HTW HG9
              have S9 := S10; have HB9 := HB10'; have HSC := HSC10
              clear S10 HB10' HSC10
              cases hv : Lib.validD Bd with
              | true =>
                have HBO : Hid (bodyD (decF f) 7 Bd (cnt + 1) = .ok 0 Bd [] (cnt + 1)) := by show _ = _; unfold bodyD; rw [if_neg (by decide), if_pos (by decide), if_pos (by unfold datB; rw [if_neg (by decide), if_pos rfl]; exact hv)]
                clear hv
                go_wp2_with fail
                go_meet
                exact ⟨{ tag := T, typ := 7, data := Bd, ds := ⟨a', N, c'⟩ }, 0, Bd, HBO.out, HVI.out, HB9.out, ItV.ok_iff.2 ⟨HSC.out, SlR.nil _ _, fun x hx => by cases hx⟩, HFT.out, S9.out⟩
              | false =>
                have hbo : bodyD (decF f) 7 Bd (cnt + 1) = .err 5 := by unfold bodyD; rw [if_neg (by decide), if_pos (by decide), if_neg (by unfold datB; rw [if_neg (by decide), if_pos rfl, hv]; decide)]
                rw [hbo] at HD0
                dsimp only at HD0
                clear hbo hv
                go_wp2_with (first | (refine wpList_load_row rfl 29 _ rfl z rfl _ _ _ _ S9.out.zs Tryd.underlying29 rfl iSize ?_) | (refine wpList_store_obj rfl 29 _ _ rfl b rfl itZ.arr rfl _ _ S9.out.rs rfl iSize (arr_one itZ) ?_; intro w10 hb10 hc10 hs10; have HB10 := hid hb10; have HC10 := hid hc10; clear hb10 hc10 hs10))
                refine bodyPost_ret (results_cell_tmp2 rfl _ _ b _ _ _ _ rfl HB10.out Tryd.underlying29 rfl iSize _ _ rfl rfl) rfl ?_
                unfold OneRes
                rw [HD0.out]
                exact ⟨S9.out.done HC10.out, rfl, by decide⟩
            · as_aux_lemma =>
              obtain ⟨ib, hib, hbz0, hbz1, hbz2⟩ := info_parts infoB
              go_upto_region 54 with (at_builtin; refine wpList_append_bytes rfl _ _ 23 rfl w7.heap.size 5 ib _ Tryd.underlying23 hib hbz0 hbz1 hbz2 rfl _ 0 [] rfl (World.ownsRow_made w7 #[] 0 (Nat.le_refl _) (by unfold maxLen; omega) rfl) _ _ _ _ rfl (HG2.out.rd.below (Below.alloc (Below.refl _ _) (Nat.le_refl _) _)) HG2.out.no (by have := HG2.out.le; omega) (by simp) ?_; intro a' c' w8 hown hgw; have HOW := hid hown; have HB8 : Hid (Below w7.heap.size w7 w8) := ((Below.refl _ _).alloc (Nat.le_refl _) _).grown hgw (by simp) (by intro q hq; cases hq; exact Nat.le_refl _); have HBI8 := hid ((HB8.out.block _ (block_lt HBI.out)).trans HBI.out); have hco := cell_of_block (j := 3) HBI8.out (ar3 _); have hfz : ∀ j, w8.frozen? ⟨bi, j, none⟩ = false := fun j => frozen_of_block HBI8.out; clear hown hgw)
              clear hco hfz
              rw [Nat.zero_add, List.nil_append] at HOW
              try rw [Nat.zero_add]
              have hset : Chg [bi] w8 (w8.setCell ⟨bi, 3, none⟩ (.slice a' N c')) := (Chg.refl [bi] w8).setCell (.inl (by simp)) _
              have HBLK := hid (fun q hq => blk_own (s := ⟨a', N, c'⟩) HOW.out q hq)
              have HSC := hid ((SlC.of_own (s := ⟨a', N, c'⟩) HOW.out (by have := HG2.out.le; show N ≤ _; omega)).keep hset (fun q hq hm => by have h1 := HBLK.out q hq; have h2 := HBS.out; have h3 := List.mem_singleton.1 hm; omega))
              have HB9 : Hid ((w8.setCell ⟨bi, 3, none⟩ (.slice a' N c')).heap[bi]? = some (.cells (ItV.arr { tag := T, typ := 8, data := Bd, ds := ⟨a', N, c'⟩ }) 29 (0, 0))) := block_setCell (j := 3) HBI8.out _
              have S9 := hid ((S.out.below HB8.out).keep hset (fun q hq => by rw [List.mem_singleton.1 hq]; exact HBB.out))
              have HG9 := hid ((HG2.out.below HB8.out).keep hset (fun q off sp e hm => by have h1 := (HOF2.out q off sp e).1; have h2 := List.mem_singleton.1 hm; have h3 := HBB.out; have h4 := S.out.ez; omega))
              have HFT : Hid (∀ q ∈ ItV.foot { tag := T, typ := 8, data := Bd, ds := ⟨a', N, c'⟩ }, bi < q) := fun q hq => by
                rcases ItV.mem_foot.1 hq with h | h | ⟨x, hx, h⟩
                · have h1 := HBLK.out q h; have h2 := HBS.out; omega
                · simp [Sl.blk] at h
                · cases hx
              have HVI : Hid (ItV.it { tag := T, typ := 8, data := Bd, ds := ⟨a', N, c'⟩ } = ⟨T, 8, 0, Bd, []⟩) := by show _ = _; rw [ItV.it_eq]; rfl
              clear hset HOW HBLK HB8 HBI8 HBI S
              generalize w8.setCell ⟨bi, 3, none⟩ (.slice a' N c') = w9 at *
              have HBO : Hid (bodyD (decF f) 8 Bd (cnt + 1) = .ok 0 Bd [] (cnt + 1)) := by show _ = _; unfold bodyD; rw [if_neg (by decide), if_pos (by decide), if_pos (show datB 8 Bd = true from rfl)]
              go_wp2_with fail
              go_meet
              exact ⟨{ tag := T, typ := 8, data := Bd, ds := ⟨a', N, c'⟩ }, 0, Bd, HBO.out, HVI.out, HB9.out, ItV.ok_iff.2 ⟨HSC.out, SlR.nil _ _, fun x hx => by cases hx⟩, HFT.out, S9.out⟩
            · as_aux_lemma =>
              have hN : N = 8 := by have h := HOF.out; simpa [ofB, isD, isS] using h
              have hNb : ((N : Int) == 4) = false := by rw [hN]; rfl
              clear hN
              go_upto_region 35 with (fail)
              have HQ : Hid (RdS 100 (w7.alloc (.cells #[.slice a2 N cm, .bool false] 100)) w7.heap.size (Bd, false) (w7.heap.size :: (a2.map (·.block)).toList)) := RdS.new HG2.out
              have hbel : Below w7.heap.size w7 (w7.alloc (.cells #[.slice a2 N cm, .bool false] 100)) := (Below.refl _ w7).alloc (Nat.le_refl _) _
              have S2 := hid (S.out.below hbel)
              have HB2 := hid ((hbel.block _ (block_lt HBI.out)).trans HBI.out)
              clear S hbel HBI
              generalize w7.alloc (.cells #[.slice a2 N cm, .bool false] 100) = w8 at *
              obtain ⟨r2, hr2⟩ : ∃ r2, r2 = w7.heap.size := ⟨_, rfl⟩
              rw [← hr2] at HQ HBS ⊢
              clear hr2
              generalize r2 :: (a2.map (·.block)).toList = FQ2 at *
              go_wp2_with fail
              refine (srU64_any r2 _ FQ2 _ HQ.out).mono ?_
              rintro e w9 ⟨rfl, hc3, hq3⟩
              dsimp only
              have S3 := hid (S2.out.keep hc3 (fun k hk => by rw [List.mem_singleton.1 hk]; have h1 := HBB.out; have h2 := HBS.out; omega))
              have HB3 := hid ((hc3.block _ (block_lt HB2.out) (fun hm => by have h1 := HBS.out; have h2 := List.mem_singleton.1 hm; omega)).trans HB2.out)
              clear S2 HB2 HQ hc3 hq3
              obtain ⟨y, hy⟩ : ∃ y, y = (pI 8 (Bd, false)).1 := ⟨_, rfl⟩
              have HAS : Hid (wrap64 ((num (taken Bd false 8) : Nat) : Int) = y) := by show _ = _; rw [hy]; exact asInt_eq _
              have HY := hid hy
              clear hy
              have d2 := cell_of_block (j := 2) HB3.out (ar2 _)
              have hfz := fun j => frozen_of_block (j := j) HB3.out
              go_upto_region 40 with (fail)
              rw [HAS.out]
              clear HAS
              have HB4 : Hid ((w9.setCell ⟨bi, 2, none⟩ (.int .i64 y)).heap[bi]? = some (.cells (ItV.arr { tag := T, typ := 9, int := y }) 29 (0, 0))) := block_setCell (j := 2) HB3.out _
              have S4 := hid (S3.out.keep ((Chg.refl [bi] w9).setCell (.inl (by simp)) _ : Chg [bi] w9 (w9.setCell ⟨bi, 2, none⟩ (.int .i64 y))) (fun q hq => by rw [List.mem_singleton.1 hq]; exact HBB.out))
              clear S3 HB3 d2 hfz
              generalize w9.setCell ⟨bi, 2, none⟩ (.int .i64 y) = w10' at *
              have HBO : Hid (bodyD (decF f) 9 Bd (cnt + 1) = .ok y [] [] (cnt + 1)) := by show _ = _; unfold bodyD; rw [if_neg (by decide), if_neg (by decide), if_neg (by decide), ← HY.out, if_pos (by rfl)]
              have HVI : Hid (ItV.it { tag := T, typ := 9, int := y } = ⟨T, 9, y, [], []⟩) := by show _ = _; rw [ItV.it_eq]; rfl
              go_wp2_with fail
              go_meet
              exact ⟨{ tag := T, typ := 9, int := y }, y, [], HBO.out, HVI.out, HB4.out, ItV.ok_iff.2 ⟨SlC.nil _, SlR.nil _ _, fun x hx => by cases hx⟩, no_foot rfl rfl rfl, S4.out⟩
            · as_aux_lemma =>
              have hN : N = 4 := by have h := HOF.out; simpa [ofB, isD, isS] using h
              have hNb : ((N : Int) == 4) = true := by rw [hN]; rfl
              clear hN
              go_upto_region 35 with (fail)
              have HQ : Hid (RdS 100 (w7.alloc (.cells #[.slice a2 N cm, .bool false] 100)) w7.heap.size (Bd, false) (w7.heap.size :: (a2.map (·.block)).toList)) := RdS.new HG2.out
              have hbel : Below w7.heap.size w7 (w7.alloc (.cells #[.slice a2 N cm, .bool false] 100)) := (Below.refl _ w7).alloc (Nat.le_refl _) _
              have S2 := hid (S.out.below hbel)
              have HB2 := hid ((hbel.block _ (block_lt HBI.out)).trans HBI.out)
              clear S hbel HBI
              generalize w7.alloc (.cells #[.slice a2 N cm, .bool false] 100) = w8 at *
              obtain ⟨r2, hr2⟩ : ∃ r2, r2 = w7.heap.size := ⟨_, rfl⟩
              rw [← hr2] at HQ HBS ⊢
              clear hr2
              generalize r2 :: (a2.map (·.block)).toList = FQ2 at *
              go_wp2_with fail
              refine (srU32_any r2 _ FQ2 _ HQ.out).mono ?_
              rintro e w9 ⟨rfl, hc3, hq3⟩
              dsimp only
              have S3 := hid (S2.out.keep hc3 (fun k hk => by rw [List.mem_singleton.1 hk]; have h1 := HBB.out; have h2 := HBS.out; omega))
              have HB3 := hid ((hc3.block _ (block_lt HB2.out) (fun hm => by have h1 := HBS.out; have h2 := List.mem_singleton.1 hm; omega)).trans HB2.out)
              clear S2 HB2 HQ hc3 hq3
              obtain ⟨y, hy⟩ : ∃ y, y = (pI 4 (Bd, false)).1 := ⟨_, rfl⟩
              rw [← hy]
              have HY := hid hy
              clear hy
              have d2 := cell_of_block (j := 2) HB3.out (ar2 _)
              have hfz := fun j => frozen_of_block (j := j) HB3.out
              go_upto_region 37 with (fail)
              have HB4 : Hid ((w9.setCell ⟨bi, 2, none⟩ (.int .i64 y)).heap[bi]? = some (.cells (ItV.arr { tag := T, typ := 10, int := y }) 29 (0, 0))) := block_setCell (j := 2) HB3.out _
              have S4 := hid (S3.out.keep ((Chg.refl [bi] w9).setCell (.inl (by simp)) _ : Chg [bi] w9 (w9.setCell ⟨bi, 2, none⟩ (.int .i64 y))) (fun q hq => by rw [List.mem_singleton.1 hq]; exact HBB.out))
              clear S3 HB3 d2 hfz
              generalize w9.setCell ⟨bi, 2, none⟩ (.int .i64 y) = w10' at *
              have HBO : Hid (bodyD (decF f) 10 Bd (cnt + 1) = .ok y [] [] (cnt + 1)) := by show _ = _; unfold bodyD; rw [if_neg (by decide), if_neg (by decide), if_pos (by decide), shortV_ref, ← HY.out]; rw [if_neg (by decide)]
              have HVI : Hid (ItV.it { tag := T, typ := 10, int := y } = ⟨T, 10, y, [], []⟩) := by show _ = _; rw [ItV.it_eq]; rfl
              go_wp2_with fail
              go_meet
              exact ⟨{ tag := T, typ := 10, int := y }, y, [], HBO.out, HVI.out, HB4.out, ItV.ok_iff.2 ⟨SlC.nil _, SlR.nil _ _, fun x hx => by cases hx⟩, no_foot rfl rfl rfl, S4.out⟩
          case rest =>
            clear S HBI HG2
            obtain ⟨v, n0, d, hbo, hvi, hvb, hvo, hvf, hs⟩ := hcut
            have HD1 : Hid (decF (f + 1) l cnt = match padE (l.drop 8) (up8 N - N) N with | some e => .err e | none => .ok ⟨T, K, n0, d, []⟩ ((l.drop 8).drop (up8 N)) (cnt + 1)) := by show _ = _; rw [HD0.out, hbo]
            have S := hid hs; have HVI := hid hvi; have HVB := hid hvb; have HVO := hid hvo; have HVF := hid hvf
            have HGm := hid (HG0.out.keep hs.chg HO.out)
            clear hbo hvi hvb hvo hvf hs HD0 HBL
            have HUP := hid (up8_ge N)
            generalize up8 N = E at *
            have HEN : Hid (E < 4294967304) := by have h1 := HUP.out; have h2 := HN4.out; show _ < _; omega
            go_wp2_with fail
            go_loopw [20] (fun y wr => RpL (l.drop 8) N E wc y wr) (fun y _ => E + 8 - (intOf y).toNat)
            case atStart => exact ⟨⟨N, by rw [HN8.out], Nat.le_refl _, HUP.out.1, rfl, rfl⟩⟩
            case round =>
              as_aux_lemma =>
              obtain ⟨j, rfl, hj1, hj2, hpad, rfl⟩ := hrel.ex
              clear hrel
              have HPD := hid hpad
              obtain ⟨J, hJ⟩ : ∃ J, J = 8 + j := ⟨_, rfl⟩
              rw [← hJ]
              clear hpad
              have hmod : IntKind.i64.wrap ((J : Int).tmod 8) = (J : Int) % 8 := by rw [Int.tmod_eq_emod_of_nonneg (by omega)]; exact IntWalk.i64_in _ (by omega)
              by_cases hjE : j < E
              · have hgt : (0 : Int) < (J : Int) % 8 := by have := HUP.out; omega
                obtain ⟨g, hg⟩ : ∃ g, E - j = g + 1 := ⟨E - j - 1, by omega⟩
                have HPS := hid HPD.out
                rw [hg, pad_step, HM2.out] at HPS
                by_cases hjm : m ≤ j
                · have hjmz2 : (n : Int) ≤ (J : Int) := by have h1 := HM.out; have h2 := H8.out; omega
                  rw [if_pos hjm] at HPS
                  rw [← HPS.out] at HD1
                  clear HPD hJ
                  go_wp2_with (first | (refine wpList_load_row rfl 29 _ rfl z rfl _ _ _ _ S.out.zs Tryd.underlying29 rfl iSize ?_) | (refine wpList_store_obj rfl 29 _ _ rfl b rfl itZ.arr rfl _ _ S.out.rs rfl iSize (arr_one itZ) ?_; intro w10 hb10 hc10 hs10; have HB10 := hid hb10; have HC10 := hid hc10; clear hb10 hc10 hs10))
                  refine bodyPost_ret (results_cell_tmp2 rfl _ _ b _ _ _ _ rfl HB10.out Tryd.underlying29 rfl iSize _ _ rfl rfl) rfl ?_
                  unfold OneRes
                  rw [HD1.out]
                  exact ⟨S.out.done HC10.out, rfl, by decide⟩
                · have hjmz2 : ¬ (n : Int) ≤ (J : Int) := by have h1 := HM.out; have h2 := H8.out; omega
                  have hjmz : (J : Int) < (n : Int) := by omega
                  have hwj : IntKind.i64.wrap ((J : Int) + 1) = ((8 + (j + 1) : Nat) : Int) := by have := HEN.out; rw [IntWalk.i64_in _ (by omega)]; omega
                  rw [if_neg hjm] at HPS
                  obtain ⟨bq, off, ha2', hcc⟩ := HGm.out.rd.cell J (by omega)
                  subst ha2'
                  have hcell := hcc J (by omega)
                  have hcell2 : wr.cell? ⟨bq, off + J, none⟩ = some (.int .u8 (((l.drop 8).getD j 0).toNat : Int)) := by
                    rw [show (l.drop 8).getD j 0 = l.getD J 0 by rw [hJ, List.getD_eq_getElem?_getD, List.getD_eq_getElem?_getD, List.getElem?_drop]]; exact hcell
                  clear hcc hcell
                  by_cases hx : (l.drop 8).getD j 0 = 0
                  · rw [if_pos hx] at HPS
                    rw [hx] at hcell2
                    have hcell3 : wr.cell? ⟨bq, off + J, none⟩ = some (.int .u8 0) := hcell2
                    clear hcell2 hx
                    have HRR0 : Hid (RpL (l.drop 8) N E wr (.int .i64 ((8 + (j + 1) : Nat) : Int)) wr) := ⟨⟨j + 1, rfl, by omega, by omega, by rw [show E - (j + 1) = g by omega]; exact HPS.out, rfl⟩⟩
                    obtain ⟨J1, hJ1⟩ : ∃ J1, J1 = 8 + (j + 1) := ⟨_, rfl⟩
                    rw [← hJ1] at HRR0 hwj
                    have HM1 := hid (show J1 = J + 1 ∧ J < 8 + E by omega)
                    clear hJ hJ1
                    go_wp2_with fail
                    have HRR := HRR0.out
                    go_roundw
                    case rel => first | exact HRR | ((repeat apply Exists.intro); exact HRR) | ((repeat apply Exists.intro); exact ⟨HRR, rfl⟩)
                    case measure => (have := HM1.out; simp [intOf] <;> omega)
                  · rw [if_neg hx] at HPS
                    rw [← HPS.out] at HD1
                    obtain ⟨y, hy⟩ : ∃ y : Int, y = (((l.drop 8).getD j 0).toNat : Int) := ⟨_, rfl⟩
                    rw [← hy] at hcell2
                    have hzn : (y != 0) = true := by
                      have : y ≠ 0 := fun h0 => hx (by rw [h0] at hy; exact UInt8.toNat_inj.1 (by show _ = 0; omega))
                      simpa using this
                    clear hx hy HPD hJ
                    go_wp2_with (first | (refine wpList_load_row rfl 29 _ rfl z rfl _ _ _ _ S.out.zs Tryd.underlying29 rfl iSize ?_) | (refine wpList_store_obj rfl 29 _ _ rfl b rfl itZ.arr rfl _ _ S.out.rs rfl iSize (arr_one itZ) ?_; intro w10 hb10 hc10 hs10; have HB10 := hid hb10; have HC10 := hid hc10; clear hb10 hc10 hs10))
                    refine bodyPost_ret (results_cell_tmp2 rfl _ _ b _ _ _ _ rfl HB10.out Tryd.underlying29 rfl iSize _ _ rfl rfl) rfl ?_
                    unfold OneRes
                    rw [HD1.out]
                    exact ⟨S.out.done HC10.out, rfl, by decide⟩
              · obtain rfl : j = E := by omega
                have hgt : ¬ (0 : Int) < (J : Int) % 8 := by have := HUP.out; omega
                have hpn := HPD.out
                rw [Nat.sub_self, show padE (l.drop 8) 0 j = none from rfl] at hpn
                rw [← hpn] at HD1
                dsimp only at HD1
                have HJM : Hid (J ≤ l.length) := by
                  have h1 := (pad_none _ _ _ (by rw [HM2.out]; exact HNM.out) hpn.symm).1
                  rw [List.length_drop] at h1
                  have h2 := HUP.out; have h3 := H8.out; have h4 := HLN.out
                  show _ ≤ _
                  omega
                have HD2 : Hid (decF (f + 1) l cnt = .ok ⟨T, K, n0, d, []⟩ (l.drop J) (cnt + 1)) := by show _ = _; rw [HD1.out, List.drop_drop, hJ]
                have HJ8 : Hid (8 ≤ J) := by show _ ≤ _; omega
                clear HD1 hpn HPD hJ
                go_wp2_with (first | (refine wpList_load_row rfl 29 _ rfl bi rfl _ _ _ _ HVB.out Tryd.underlying29 rfl iSize ?_) | (refine wpList_store_obj rfl 29 _ _ rfl b rfl v.arr rfl _ _ S.out.rs rfl iSize (arr_one _) ?_; intro w10 hb10 hc10 hs10; have HB10 := hid hb10; have HC10 := hid hc10; clear hb10 hc10 hs10))
                refine bodyPost_ret (results_cell_tmp2 rfl _ _ b _ _ _ _ rfl HB10.out Tryd.underlying29 rfl iSize _ _ rfl rfl) rfl ?_
                unfold OneRes
                rw [HD2.out]
                have e1 := S.out.eb; have e2 := S.out.ez; have e3 := HBB.out
                refine ⟨S.out.done HC10.out, v, J, rfl, rfl, HJ8.out, HJM.out, HVI.out, HVO.out.keep HC10.out (fun k hk hm => by have h1 := HVF.out k hk; have h2 := List.mem_singleton.1 hm; omega), fun k hk => by have h1 := HVF.out k hk; omega, ?_⟩
                exact (HC10.out.block p (block_lt S.out.cn) (fun hm => by have h2 := List.mem_singleton.1 hm; have := S.out.pl; omega)).trans S.out.cn
end Go.Proofs.YtmpajhacigjloaaDoor
