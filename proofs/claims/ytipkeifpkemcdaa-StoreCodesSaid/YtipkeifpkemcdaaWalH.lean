/- wal: the works that write bytes. -/
import Derived.Test.YtipkeifpkemcdaaWalG
namespace Go.Proofs.Ytipkeifpkemcdaa
open Go.RowKit
set_option linter.unusedVariables false
set_option linter.unusedSimpArgs false
set_option maxRecDepth 100000
set_option maxHeartbeats 3200000
theorem fnInfo : (Try.prog.info? 152).map (fun i => (i.zero, i.size, i.bytes)) = some (some .nilFunc, 1, 8) := by kernel_rfl
theorem RdC.of_block1 {w : World} {p : Nat} {v : Value} {T : TypeId} {fr : Nat × Nat} (h : w.heap[p]? = some (.cells #[v] T fr)) : RdC w (some ⟨p, 0, none⟩) (1 * 1) [v] :=
  ⟨by simp, fun j hj => ⟨p, 0, rfl, fun i u hu => by rw [Nat.zero_add]; exact cell_of_block h (by simpa using hu)⟩⟩
/-- A row of function values of the call's own; what they hold is apart from it. -/
structure OwnF (w : World) (pl p B : Nat) (s : Sl) (vs : List Value) (xs : List Wk) : Prop where
  own : w.ownsRow B 152 1 (.slice s.a s.n s.c) s.n vs
  lx : xs.length = s.n
  fn : ∀ (k : Nat) (v : Value) (x : Wk), vs[k]? = some v → xs[k]? = some x → FnR w pl p (fun q => B ≤ q ∧ q < w.heap.size ∧ s.v.ownBlock ≠ some q) v x
section
variable {w w' W : World} {pl p B : Nat} {s : Sl} {vs us : List Value} {xs ys : List Wk}
theorem OwnF.nil (w : World) (pl p B : Nat) : OwnF w pl p B {} [] [] := ⟨World.ownsRow_nil w B 152 1, rfl, fun k v x h _ => by simp at h⟩
theorem OwnF.len (h : OwnF w pl p B s vs xs) : vs.length = s.n := by have := h.own.1; omega
theorem OwnF.chg (h : OwnF w pl p B s vs xs) {G : List Nat} (hc : Chg G w w') (hG : ∀ q ∈ G, q < B ∨ w.heap.size ≤ q) : OwnF w' pl p B s vs xs :=
  ⟨hc.owns h.own (fun q hq hm => by have h1 := h.own.lt q hq; have h2 := hG q hm; omega), h.lx, fun k v x h1 h2 => ((h.fn k v x h1 h2).keep hc (fun q hq hp => by have := hG q hq; omega)).wide (fun q hq => ⟨hq.1, Nat.lt_of_lt_of_le hq.2.1 hc.size, hq.2.2⟩)⟩
theorem OwnF.below (h : OwnF w pl p B s vs xs) (hb : Below w.heap.size w w') : OwnF w' pl p B s vs xs := h.chg (Chg.of_below hb []) (fun q hm => by cases hm)
theorem OwnF.app (h : OwnF w pl p B s vs xs) (hW : Below w.heap.size w W) (hl : us.length = ys.length) (hu : ∀ (k : Nat) (v : Value) (x : Wk), us[k]? = some v → ys[k]? = some x → FnR w pl p (fun q => B ≤ q ∧ q < w.heap.size ∧ s.v.ownBlock ≠ some q) v x) {a : Option Addr} {n c : Nat} (hn : n = s.n + us.length)
    (ho : w'.ownsRow B 152 1 (.slice a n c) n (vs ++ us)) (hg : W.grownBy w' s.v.ownBlock) (hf : (Value.slice a n c).ownBlock = s.v.ownBlock ∨ ∀ k, (Value.slice a n c).ownBlock = some k → W.heap.size ≤ k) : OwnF w' pl p B ⟨a, n, c⟩ (vs ++ us) (xs ++ ys) := by
  have hc : Chg s.v.ownBlock.toList w w' := (Chg.of_below hW _).grown hg (fun k hk => .inl (by rw [hk]; simp))
  refine ⟨ho, by rw [List.length_append, h.lx, hn, hl], fun k v x h1 h2 => ?_⟩
  have key : FnR w pl p (fun q => B ≤ q ∧ q < w.heap.size ∧ s.v.ownBlock ≠ some q) v x := by
    have hlv := h.len; have hlx := h.lx
    rcases Nat.lt_or_ge k vs.length with hk | hk
    · rw [List.getElem?_append_left hk] at h1
      rw [List.getElem?_append_left (by omega)] at h2
      exact h.fn k v x h1 h2
    · rw [List.getElem?_append_right hk] at h1
      rw [List.getElem?_append_right (by omega)] at h2
      rw [show xs.length = vs.length by omega] at h2
      exact hu _ v x h1 h2
  refine (key.keep hc (fun q hq hp => hp.2.2 (by
    cases hv : s.v.ownBlock with
    | none => rw [hv] at hq; cases hq
    | some y => rw [hv] at hq; simp at hq; rw [hq]))).wide (fun q hq => ⟨hq.1, Nat.lt_of_lt_of_le hq.2.1 hc.size, fun he => ?_⟩)
  rcases hf with h' | h'
  · exact hq.2.2 (by rw [← h']; exact he)
  · have h3 := h' q he
    have h4 := hW.size
    have h5 := hq.2.1
    omega
end
theorem run_sliceM {P : Program} (t e : TypeId) (size : Nat) (ht : P.underlying t = some (.slice e)) (hs : ∀ w, (sizeOf e).run P w = .ok size w) (a : Option Addr) (n c k h : Nat) (hk : k ≤ h) (hh : h ≤ c) (w : World) :
    (Instr.slice t (.slice a n c) (some (.int .i64 (k : Int))) (some (.int .i64 (h : Int))) none).run P w = .ok (.slice (if c = k then a else a.map (·.add (k * size))) (h - k) (c - k)) w := by
  have h1 : (0 : Int) ≤ (k : Int) ∧ (k : Int) ≤ (h : Int) := by omega
  have h2 : (0 : Int) ≤ (h : Int) ∧ (h : Int) ≤ (c : Int) := by omega
  have h3 : (k : Int) ≤ (h : Int) := by omega
  simp [Instr.slice, run_underlying ht, Instr.sliceBounds, Instr.sliceBound, asIntOf, h1, h2, h3, hs, hk, hh]
/-- The k-th sector of bytes; the works that write them. -/
def chunk (l : List UInt8) (k : Nat) : List UInt8 := (l.drop (64 * k)).take 64
def secW (at_ : Nat) (l : List UInt8) (m : Nat) : List Wk := (List.range m).map fun k => .wr (at_ + k) (chunk l k)
theorem secW_s (at_ : Nat) (l : List UInt8) (m : Nat) : secW at_ l (m + 1) = secW at_ l m ++ [.wr (at_ + m) (chunk l m)] := by unfold secW; rw [List.range_succ, List.map_append]; rfl
/-- While they are made. -/
structure SeL (at_ m : Nat) (l : List UInt8) (w : World) (pl p lc B : Nat) (y7 y8 : Value) (wr : World) : Prop where
  ex : ∃ (j : Nat) (sa : Option Addr) (sc : Nat) (vs : List Value), y8 = .int .i64 ((64 * j : Nat) : Int) ∧ y7 = .slice sa j sc ∧ j ≤ m ∧ OwnF wr pl p B ⟨sa, j, sc⟩ vs (secW at_ l j) ∧ wr.heap[lc]? = some (.cells #[.pointer (some ⟨pl, 0, none⟩)] 88 (0, 0)) ∧ Below w.heap.size w wr ∧ (Sl.mk sa j sc).v.ownBlock ≠ some lc ∧ w.heap.size ≤ lc ∧ (∀ q, (Sl.mk sa j sc).v.ownBlock = some q → lc < q)
theorem sectorsF_any (pl p B at_ m : Nat) (a : Option Addr) (n c : Nat) (l : List UInt8) (w : World) (hr : RdB w a n l) (hno : a = none → c = 0) (hnc : n ≤ c) (hn : n = 64 * m) (hm : at_ + m ≤ 1099511627776) (hB : B ≤ w.heap.size) (ha : ∀ b off sp, a = some ⟨b, off, sp⟩ → B ≤ b ∧ b < w.heap.size) :
    Calls Try.prog 98 #[.pointer (some ⟨pl, 0, none⟩), .int .i64 (at_ : Int), .slice a n c] w fun e w' => ∃ (s : Sl) (vs : List Value), e = .returned (.slice s.a s.n s.c) ∧ s.n = m ∧ OwnF w' pl p B s vs (secW at_ l m) ∧ Below w.heap.size w w' ∧ (∀ q, s.v.ownBlock = some q → w.heap.size ≤ q) := by
  obtain ⟨i, hi, hz0, hz1, hz2⟩ := info_parts fnInfo
  have HR := hid hr; have HNO := hid hno; have HNC := hid hnc; have HA := hid ha; have HN := hid hn
  have h1 := block_new w (.cells #[.pointer (some ⟨pl, 0, none⟩)] 88)
  have hb1 : Below w.heap.size w (w.alloc (.cells #[.pointer (some ⟨pl, 0, none⟩)] 88)) := (Below.refl _ _).alloc (Nat.le_refl _) _
  have HB1 := hid hb1
  have HLC := hid h1
  obtain ⟨lc, hlc⟩ : ∃ lc, lc = w.heap.size := ⟨_, rfl⟩
  have HLCE := hid hlc
  have HK0 : Hid (SeL at_ m l w pl p lc B (.slice none 0 0) (.int .i64 0) (w.alloc (.cells #[.pointer (some ⟨pl, 0, none⟩)] 88))) := ⟨0, none, 0, [], rfl, rfl, Nat.zero_le _, OwnF.nil _ _ _ _, by rw [hlc]; exact h1, hb1, (fun he => by cases he), by omega, (fun q he => by cases he)⟩
  clear hr hno hnc ha hn h1 hb1
  go_enter Try.func98, Try.ntmps98
  go_upto_region 3 with (fail)
  rw [← hlc]
  clear HB1 HLC hlc
  generalize w.alloc (.cells #[.pointer (some ⟨pl, 0, none⟩)] 88) = W at *
  go_loopw [7, 8] (fun y7 y8 wr => SeL at_ m l w pl p lc B y7 y8 wr) (fun _ y8 _ => 64 * m - (intOf y8).toNat)
  case atStart => exact HK0.out
  case round =>
    obtain ⟨j, sa, sc, vs, rfl, rfl, hjm, hof, hlcb, hbw, hap, hlw, hlq⟩ := hrel.ex
    clear hrel HK0
    have HO := hid hof; have HLC := hid hlcb; have HBW0 := hid hbw; have HAP := hid hap; have HLQ := hid hlq
    clear hof hlcb hbw hap hlq
    obtain ⟨J, hJ⟩ : ∃ J, J = 64 * j := ⟨_, rfl⟩
    rw [← hJ]
    have HJ := hid hJ
    by_cases hlt : j < m
    · have hltz : (J : Int) < (n : Int) := by have := HN.out; omega
      clear hJ
      go_upto_region 5 with (fail)
      have hJ8 := HJ.out
      have hquo : IntKind.i64.wrap ((J : Int) / 64) = (j : Int) := by rw [IntWalk.i64_in _ (by omega)]; omega
      have hadd : IntKind.i64.wrap ((at_ : Int) + (j : Int)) = ((at_ + j : Nat) : Int) := by rw [IntWalk.i64_in _ (by omega)]; omega
      obtain ⟨AJ, hAJ⟩ : ∃ A : Int, A = ((at_ + j : Nat) : Int) := ⟨_, rfl⟩
      rw [← hAJ] at hadd
      have HAJE := hid hAJ
      obtain ⟨J2, hJ2⟩ : ∃ z, z = J + 64 := ⟨_, rfl⟩
      have hhi : IntKind.i64.wrap ((J : Int) + 64) = (J2 : Int) := by rw [IntWalk.i64_in _ (by omega)]; omega
      have hra : RdB wr a n l := HR.out.below HBW0.out
      obtain ⟨h1, h2, h3, h4⟩ := drop_facts hra (k := J) (by have := HN.out; omega) HNC.out HNO.out rfl
      obtain ⟨aj, haj⟩ : ∃ x, (if c = J then a else a.map (·.add (J * 1))) = x := ⟨_, rfl⟩
      rw [haj] at h1 h2 h3 h4
      obtain ⟨cj, hcj⟩ : ∃ x, x = c - J := ⟨_, rfl⟩
      rw [← hcj] at h2
      have hsl : ∀ w, (Instr.slice 24 (.slice a n c) (some (.int .i64 (J : Int))) (some (.int .i64 (J2 : Int))) none).run Try.prog w = .ok (.slice aj 64 cj) w := fun w => by
        have h := run_sliceM (P := Try.prog) 24 5 1 Try.underlying24 (fun w => by kernel_rfl) a n c J J2 (by omega) (by have := HN.out; have := HNC.out; omega) w
        rw [haj, show J2 - J = 64 by omega, ← hcj] at h
        exact h
      have HRJ0 := hid (show RdB wr aj 64 (chunk l j) by unfold chunk; rw [← hJ8]; exact h1.take (by have := HN.out; omega))
      have HNJ := hid h2
      have HAJ : Hid (∀ b off sp, aj = some ⟨b, off, sp⟩ → B ≤ b ∧ b < w.heap.size ∧ (Sl.mk sa j sc).v.ownBlock ≠ some b) := fun b off sp e => by
        obtain ⟨off', sp', e'⟩ := h3 b off sp e
        have h5 := HA.out b off' sp' e'
        exact ⟨h5.1, h5.2, fun he => by have := HLQ.out b he; omega⟩
      have HJ2 := hid hJ2; have HHI := hid hhi
      clear hra h1 h2 h3 h4 haj hcj hJ2 hAJ hJ8
      refine wp_region_any (by kernel_rfl) ?_
      try (change wpAny _ _ _ _ _ _ _ (World.drew _))
      have hdr : Below wr.heap.size wr wr.drew := Below.drew (Below.refl _ wr)
      have HO1 := hid (HO.out.below hdr)
      have HLC1 := hid ((hdr.block lc (block_lt HLC.out)).trans HLC.out)
      have HRJ := hid (HRJ0.out.below hdr)
      have HBWD := hid (HBW0.out.trans (hdr.mono HBW0.out.size))
      have HDS : Hid (wr.drew.heap.size = wr.heap.size) := rfl
      clear hdr HO HLC HRJ0
      have HO := HO1
      have HLC := HLC1
      clear HO1 HLC1
      generalize wr.drew = wd at *
      have HWB : Hid (B ≤ wd.heap.size) := Nat.le_trans hB HBWD.out.size
      have HLB : Hid (w.heap.size ≤ lc ∧ (Sl.mk sa j sc).v.ownBlock ≠ some lc) := ⟨hlw, HAP.out⟩
      go_simp
      refine wpAny_take (i := 0) (v := .int .i64 (at_ : Int)) rfl (by kernel_rfl) (by kernel_rfl) (by kernel_rfl) (fun _ _ _ h => h) (Or.inl ⟨by rfl, by intro w; go_simp; try rfl⟩) ?_
      refine wpAny_take (i := 1) (v := .int .i64 (J : Int)) rfl (by kernel_rfl) (by kernel_rfl) (by kernel_rfl) (fun _ _ _ h => h) (Or.inl ⟨by rfl, by intro w; go_simp; try rfl⟩) ?_
      refine wpAny_take (i := 2) (v := .int .i64 (j : Int)) rfl (by kernel_rfl) (by kernel_rfl) (by kernel_rfl) (fun _ _ _ h => h) (Or.inl ⟨by rfl, by intro w; go_simp; try rfl⟩) ?_
      refine wpAny_take (i := 3) (v := .int .i64 AJ) rfl (by kernel_rfl) (by kernel_rfl) (by kernel_rfl) (fun _ _ _ h => h) (Or.inl ⟨by rfl, by intro w; go_simp; try rfl⟩) ?_
      refine wpAny_take (i := 4) (v := .slice a n c) rfl (by kernel_rfl) (by kernel_rfl) (by kernel_rfl) (fun _ _ _ h => h) (Or.inl ⟨by rfl, by intro w; go_simp; try rfl⟩) ?_
      refine wpAny_take (i := 5) (v := .int .i64 (J : Int)) rfl (by kernel_rfl) (by kernel_rfl) (by kernel_rfl) (fun _ _ _ h => h) (Or.inl ⟨by rfl, by intro w; go_simp; try rfl⟩) ?_
      refine wpAny_take (i := 6) (v := .int .i64 (J : Int)) rfl (by kernel_rfl) (by kernel_rfl) (by kernel_rfl) (fun _ _ _ h => h) (Or.inl ⟨by rfl, by intro w; go_simp; try rfl⟩) ?_
      refine wpAny_take (i := 7) (v := .int .i64 (J2 : Int)) rfl (by kernel_rfl) (by kernel_rfl) (by kernel_rfl) (fun _ _ _ h => h) (Or.inl ⟨by rfl, by intro w; go_simp; try rfl⟩) ?_
      refine wpAny_take (i := 8) (v := .slice aj 64 cj) rfl (by kernel_rfl) (by kernel_rfl) (by kernel_rfl) (fun _ _ _ h => h) (Or.inl ⟨by rfl, by intro w; go_simp; try rfl⟩) ?_
      clear hquo hadd hhi hsl
      refine wpAny_ready (rs := [9, 10]) (by kernel_rfl) (by simp) ?_
      refine AllReady.cons rfl (fun K hK => ?_) (AllReady.cons rfl (fun K hK => ?_) AllReady.nil)
      · go_simp
        refine hK _ _ ?_
        clear hK K
        refine wpAny_ready (rs := [10]) (by kernel_rfl) (by simp) ?_
        refine AllReady.cons rfl (fun K hK => ?_) AllReady.nil
        go_simp
        refine hK _ _ ?_
        clear hK K
        have h1 := block_new wd (.cells #[.int .i64 0] 3)
        have b1 : Below wd.heap.size wd (wd.alloc (.cells #[.int .i64 0] 3)) := (Below.refl _ _).alloc (Nat.le_refl _) _
        have z1 : (wd.alloc (.cells #[.int .i64 0] 3)).heap.size = wd.heap.size + 1 := by simp
        have h2 := block_new (wd.alloc (.cells #[.int .i64 0] 3)) (.cells #[.slice none 0 0] 24)
        have b2 : Below (wd.alloc (.cells #[.int .i64 0] 3)).heap.size (wd.alloc (.cells #[.int .i64 0] 3)) ((wd.alloc (.cells #[.int .i64 0] 3)).alloc (.cells #[.slice none 0 0] 24)) := (Below.refl _ _).alloc (Nat.le_refl _) _
        have h1' := (b2.block _ (block_lt h1)).trans h1
        have b12 := b1.trans (b2.mono (by rw [z1]; omega))
        rw [z1] at h2
        try rw [z1]
        generalize (wd.alloc (.cells #[.int .i64 0] 3)).alloc (.cells #[.slice none 0 0] 24) = we at *
        obtain ⟨z, hz⟩ : ∃ z, z = wd.heap.size := ⟨_, rfl⟩
        rw [← hz] at h1' h2 b12 ⊢
        have HKC : Hid (we.heap[z]? = some (.cells #[.int .i64 0] 3 (0, 0))) := h1'
        have HDC : Hid (we.heap[(z + 1)]? = some (.cells #[.slice none 0 0] 24 (0, 0))) := h2
        have HB12 := hid b12
        have HZ := hid hz
        clear h1 b1 z1 h2 b2 h1' b12 hz
        obtain ⟨kc, hkc⟩ : ∃ q, q = z := ⟨_, rfl⟩
        obtain ⟨dc, hdc⟩ : ∃ q, q = (z + 1) := ⟨_, rfl⟩
        have HKD : Hid (kc ≠ dc ∧ z ≤ kc ∧ z ≤ dc) := by show _ ∧ _; omega
        rw [← hdc] at HDC ⊢
        rw [← hkc] at HKC ⊢
        clear hkc hdc
        have hco := cell_of_block (j := 0) HKC.out rfl
        have hfz : ∀ j, we.frozen? ⟨kc, j, none⟩ = false := fun j => frozen_of_block HKC.out
        refine wpAny_ready (rs := [11]) (by kernel_rfl) (by simp) ?_
        refine AllReady.cons rfl (fun K hK => ?_) AllReady.nil
        go_simp
        refine hK _ _ ?_
        clear hK K hco hfz
        have c1 : Chg [kc] we (we.setCell ⟨kc, 0, none⟩ (.int .i64 AJ)) := (Chg.refl [kc] we).setCell (.inl (by simp)) _
        have HKC2 : Hid ((we.setCell ⟨kc, 0, none⟩ (.int .i64 AJ)).heap[kc]? = some (.cells #[.int .i64 AJ] 3 (0, 0))) := block_setCell (j := 0) HKC.out _
        have HDC2 := hid ((c1.block dc (block_lt HDC.out) (by have := HKD.out.1; simp; omega)).trans HDC.out)
        have HC1 := hid c1
        clear c1
        generalize we.setCell ⟨kc, 0, none⟩ (.int .i64 AJ) = wf at *
        have hco := cell_of_block (j := 0) HDC2.out rfl
        have hfz : ∀ j, wf.frozen? ⟨dc, j, none⟩ = false := fun j => frozen_of_block HDC2.out
        refine wpAny_ready (rs := [12]) (by kernel_rfl) (by simp) ?_
        refine AllReady.cons rfl (fun K hK => ?_) AllReady.nil
        go_simp
        refine hK _ _ ?_
        clear hK K hco hfz
        refine wpAny_done (by kernel_rfl) ?_ _
        have c2 : Chg [dc] wf (wf.setCell ⟨dc, 0, none⟩ (.slice aj 64 cj)) := (Chg.refl [dc] wf).setCell (.inl (by simp)) _
        have HDC3 : Hid ((wf.setCell ⟨dc, 0, none⟩ (.slice aj 64 cj)).heap[dc]? = some (.cells #[.slice aj 64 cj] 24 (0, 0))) := block_setCell (j := 0) HDC2.out _
        have HKC3 := hid ((c2.block kc (block_lt HKC2.out) (by have := HKD.out.1; simp; omega)).trans HKC2.out)
        have HBW : Hid (Below z wd (wf.setCell ⟨dc, 0, none⟩ (.slice aj 64 cj))) := by
          have hz := HZ.out
          have h1 := HB12.out
          have h2 := HC1.out.below (B := z) (fun k hk => by rw [List.mem_singleton.1 hk]; exact HKD.out.2.1) (by rw [hz]; have := h1.size; omega)
          have h3 := c2.below (B := z) (fun k hk => by rw [List.mem_singleton.1 hk]; exact HKD.out.2.2) (Nat.le_trans (by rw [hz]; have := h1.size; omega) h2.size)
          exact (h1.trans h2).trans h3
        have HKZ := hid (And.intro (block_lt HKC3.out) (block_lt HDC3.out))
        clear c2 HC1 HB12 HKC HDC HKC2 HDC2
        generalize wf.setCell ⟨dc, 0, none⟩ (.slice aj 64 cj) = wg at *
        have HOW := hid (HO.out.chg (Chg.of_below (by rw [← HZ.out]; exact HBW.out) []) (fun q hm => by cases hm))
        have HLC2 := hid ((HBW.out.block lc (by rw [HZ.out]; exact block_lt HLC.out)).trans HLC.out)
        have HRD2 := hid ((Chg.of_below (show Below wd.heap.size wd wg by rw [← HZ.out]; exact HBW.out) []).rdB HRJ.out (fun _ _ _ _ hm => by cases hm))
        have hfv : FnR wg pl p (fun q => B ≤ q ∧ q < wg.heap.size ∧ (Sl.mk sa j sc).v.ownBlock ≠ some q) (.func (.func 101) #[] #[.pointer (some ⟨lc, 0, none⟩), .pointer (some ⟨kc, 0, none⟩), .pointer (some ⟨dc, 0, none⟩)]) (.wr (at_ + j) (chunk l j)) := by
          have h1 := HKZ.out; have h2 := HKD.out; have h3 := HZ.out; have h4 := HWB.out; have h5 := HBW.out.size
          have h6 : ∀ q, q ≥ z → (Sl.mk sa j sc).v.ownBlock ≠ some q := fun q hq he => by have := (HO.out.own.lt q he).2; omega
          have h7 := block_lt HLC.out
          refine ⟨lc, kc, dc, aj, cj, rfl, HLC2.out, (by rw [← HAJE.out]; exact HKC3.out), HDC3.out, HRD2.out, HNJ.out, ⟨by have := HLB.out.1; omega, by omega, HLB.out.2⟩, ⟨by omega, h1.1, h6 _ h2.2.1⟩, ⟨by omega, h1.2, h6 _ h2.2.2⟩, fun b off sp hb => ?_⟩
          have h8 := HAJ.out b off sp hb
          exact ⟨h8.1, by omega, h8.2.2⟩
        have HFV := hid hfv
        clear hfv
        clear HO HLC HRJ
        go_upto_region 6 with (fail)
        go_wp2_with (first | (refine wpList_buildSlice rfl 150 152 1 _ rfl #[(Value.func (.func 101) #[] #[.pointer (some ⟨lc, 0, none⟩), .pointer (some ⟨kc, 0, none⟩), .pointer (some ⟨dc, 0, none⟩)])] i _ Try.underlying150 hi hz0 (by rw [hz1]; decide) (by rw [hz1]; decide) (by rw [hz1]; kernel_rfl) ?_) | (at_builtin; go_must (refine wpList_append_c rfl _ _ 150 rfl B 152 i _ 1 8 Try.underlying150 hi hz0 hz1 hz2 rfl (by decide) (.slice sa j sc) j _ rfl (HOW.out.below ((Below.refl _ _).alloc (Nat.le_refl _) _)).own _ 1 _ [(Value.func (.func 101) #[] #[.pointer (some ⟨lc, 0, none⟩), .pointer (some ⟨kc, 0, none⟩), .pointer (some ⟨dc, 0, none⟩)])] rfl (RdC.of_block1 (block_new wg _)) (by intro u hu; rw [List.mem_singleton.1 hu]; rfl) (fun hx => by cases hx) (by have := HOW.out.len; unfold maxLen; omega) (by have := HOW.out.len; omega) (by have := HWB.out; have := HBW.out.size; simp; omega) ?_); intro a' c' w8 hown hgw hfr; have HO8 := hid hown; have HG8 := hid hgw; have HF8 := hid hfr; clear hown hgw hfr))
        have hb7 : Below wg.heap.size wg (wg.alloc (.cells #[(Value.func (.func 101) #[] #[.pointer (some ⟨lc, 0, none⟩), .pointer (some ⟨kc, 0, none⟩), .pointer (some ⟨dc, 0, none⟩)])] 152)) := (Below.refl _ _).alloc (Nat.le_refl _) _
        have HO9 := hid (HOW.out.app (us := [(Value.func (.func 101) #[] #[.pointer (some ⟨lc, 0, none⟩), .pointer (some ⟨kc, 0, none⟩), .pointer (some ⟨dc, 0, none⟩)])]) (ys := [.wr (at_ + j) (chunk l j)]) hb7 rfl (fun k v x h1 h2 => by
          cases k with
          | zero =>
            simp only [List.getElem?_cons_zero, Option.some.injEq] at h1 h2
            rw [← h1, ← h2]; exact HFV.out
          | succ k => simp at h1) rfl HO8.out HG8.out HF8.out)
        have hc8 : Chg (Sl.mk sa j sc).v.ownBlock.toList wg w8 := (Chg.of_below hb7 _).grown HG8.out (fun k hk => .inl (by rw [show (Sl.mk sa j sc).v.ownBlock = some k from hk]; simp))
        have hmem : ∀ q ∈ (Sl.mk sa j sc).v.ownBlock.toList, (Sl.mk sa j sc).v.ownBlock = some q := fun q hq => by
          cases hv : (Sl.mk sa j sc).v.ownBlock with
          | none => rw [hv] at hq; cases hq
          | some y => rw [hv] at hq; simp at hq; rw [hq]
        have HLC9 := hid ((hc8.block lc (block_lt HLC2.out) (fun hm => HLB.out.2 (hmem lc hm))).trans HLC2.out)
        have HBW9 : Hid (Below w.heap.size w w8) := by
          have h1 : Below w.heap.size wd wg := HBW.out.mono (by rw [HZ.out]; exact HBWD.out.size)
          have h2 := hc8.below (B := w.heap.size) (fun q hq => by have := HLQ.out q (hmem q hq); omega) (Nat.le_trans HBWD.out.size h1.size)
          exact (HBWD.out.trans h1).trans h2
        have HNQ : Hid (∀ q, (Sl.mk a' (j + 1) c').v.ownBlock = some q → lc < q) := fun q hq => by
          rcases HF8.out with h' | h'
          · exact HLQ.out q (by rw [← show _ = (Sl.mk sa j sc).v.ownBlock from h']; exact hq)
          · have h3 := h' q hq
            have h4 := block_lt HLC2.out
            have h5 := hb7.size
            omega
        clear hb7 hc8 hmem HOW HO8 HG8 HF8 HFV HRD2 HKC3 HDC3
        have HRR0 : Hid (SeL at_ m l w pl p lc B (.slice a' (j + 1) c') (.int .i64 (J2 : Int)) w8) := by
          refine ⟨j + 1, a', c', _, by have := HJ2.out; have := HJ.out; show Value.int .i64 (J2 : Int) = _; congr 1; omega, rfl, by omega, by rw [secW_s]; exact HO9.out, HLC9.out, HBW9.out, fun he => by have := HNQ.out lc he; omega, by omega, HNQ.out⟩
        have hw64 : wrap64 ((J : Int) + 64) = (J2 : Int) := by have h1 := HJ2.out; have h2 := HN.out; unfold wrap64; omega
        have HW64 := hid hw64
        have HMS := hid (show J2 = J + 64 ∧ J < 64 * m by have := HJ.out; have := HJ2.out; omega)
        clear HO9 HLC9 HBW9 HNQ hw64
        go_wp2_with fail
        rw [HW64.out]
        have HRR := HRR0.out
        clear HW64 HHI HJ2 HRR0
        go_roundw
        case rel => first | exact HRR | ((repeat apply Exists.intro); exact HRR) | ((repeat apply Exists.intro); exact ⟨HRR, rfl⟩)
        case measure => (have h1 := HMS.out; clear HRR; simp [intOf] <;> omega)
      · go_simp
        refine hK _ _ ?_
        clear hK K
        refine wpAny_ready (rs := [9]) (by kernel_rfl) (by simp) ?_
        refine AllReady.cons rfl (fun K hK => ?_) AllReady.nil
        go_simp
        refine hK _ _ ?_
        clear hK K
        have h1 := block_new wd (.cells #[.slice none 0 0] 24)
        have b1 : Below wd.heap.size wd (wd.alloc (.cells #[.slice none 0 0] 24)) := (Below.refl _ _).alloc (Nat.le_refl _) _
        have z1 : (wd.alloc (.cells #[.slice none 0 0] 24)).heap.size = wd.heap.size + 1 := by simp
        have h2 := block_new (wd.alloc (.cells #[.slice none 0 0] 24)) (.cells #[.int .i64 0] 3)
        have b2 : Below (wd.alloc (.cells #[.slice none 0 0] 24)).heap.size (wd.alloc (.cells #[.slice none 0 0] 24)) ((wd.alloc (.cells #[.slice none 0 0] 24)).alloc (.cells #[.int .i64 0] 3)) := (Below.refl _ _).alloc (Nat.le_refl _) _
        have h1' := (b2.block _ (block_lt h1)).trans h1
        have b12 := b1.trans (b2.mono (by rw [z1]; omega))
        rw [z1] at h2
        try rw [z1]
        generalize (wd.alloc (.cells #[.slice none 0 0] 24)).alloc (.cells #[.int .i64 0] 3) = we at *
        obtain ⟨z, hz⟩ : ∃ z, z = wd.heap.size := ⟨_, rfl⟩
        rw [← hz] at h1' h2 b12 ⊢
        have HKC : Hid (we.heap[(z + 1)]? = some (.cells #[.int .i64 0] 3 (0, 0))) := h2
        have HDC : Hid (we.heap[z]? = some (.cells #[.slice none 0 0] 24 (0, 0))) := h1'
        have HB12 := hid b12
        have HZ := hid hz
        clear h1 b1 z1 h2 b2 h1' b12 hz
        obtain ⟨kc, hkc⟩ : ∃ q, q = (z + 1) := ⟨_, rfl⟩
        obtain ⟨dc, hdc⟩ : ∃ q, q = z := ⟨_, rfl⟩
        have HKD : Hid (kc ≠ dc ∧ z ≤ kc ∧ z ≤ dc) := by show _ ∧ _; omega
        rw [← hkc] at HKC ⊢
        rw [← hdc] at HDC ⊢
        clear hkc hdc
        have hco := cell_of_block (j := 0) HKC.out rfl
        have hfz : ∀ j, we.frozen? ⟨kc, j, none⟩ = false := fun j => frozen_of_block HKC.out
        refine wpAny_ready (rs := [11]) (by kernel_rfl) (by simp) ?_
        refine AllReady.cons rfl (fun K hK => ?_) AllReady.nil
        go_simp
        refine hK _ _ ?_
        clear hK K hco hfz
        have c1 : Chg [kc] we (we.setCell ⟨kc, 0, none⟩ (.int .i64 AJ)) := (Chg.refl [kc] we).setCell (.inl (by simp)) _
        have HKC2 : Hid ((we.setCell ⟨kc, 0, none⟩ (.int .i64 AJ)).heap[kc]? = some (.cells #[.int .i64 AJ] 3 (0, 0))) := block_setCell (j := 0) HKC.out _
        have HDC2 := hid ((c1.block dc (block_lt HDC.out) (by have := HKD.out.1; simp; omega)).trans HDC.out)
        have HC1 := hid c1
        clear c1
        generalize we.setCell ⟨kc, 0, none⟩ (.int .i64 AJ) = wf at *
        have hco := cell_of_block (j := 0) HDC2.out rfl
        have hfz : ∀ j, wf.frozen? ⟨dc, j, none⟩ = false := fun j => frozen_of_block HDC2.out
        refine wpAny_ready (rs := [12]) (by kernel_rfl) (by simp) ?_
        refine AllReady.cons rfl (fun K hK => ?_) AllReady.nil
        go_simp
        refine hK _ _ ?_
        clear hK K hco hfz
        refine wpAny_done (by kernel_rfl) ?_ _
        have c2 : Chg [dc] wf (wf.setCell ⟨dc, 0, none⟩ (.slice aj 64 cj)) := (Chg.refl [dc] wf).setCell (.inl (by simp)) _
        have HDC3 : Hid ((wf.setCell ⟨dc, 0, none⟩ (.slice aj 64 cj)).heap[dc]? = some (.cells #[.slice aj 64 cj] 24 (0, 0))) := block_setCell (j := 0) HDC2.out _
        have HKC3 := hid ((c2.block kc (block_lt HKC2.out) (by have := HKD.out.1; simp; omega)).trans HKC2.out)
        have HBW : Hid (Below z wd (wf.setCell ⟨dc, 0, none⟩ (.slice aj 64 cj))) := by
          have hz := HZ.out
          have h1 := HB12.out
          have h2 := HC1.out.below (B := z) (fun k hk => by rw [List.mem_singleton.1 hk]; exact HKD.out.2.1) (by rw [hz]; have := h1.size; omega)
          have h3 := c2.below (B := z) (fun k hk => by rw [List.mem_singleton.1 hk]; exact HKD.out.2.2) (Nat.le_trans (by rw [hz]; have := h1.size; omega) h2.size)
          exact (h1.trans h2).trans h3
        have HKZ := hid (And.intro (block_lt HKC3.out) (block_lt HDC3.out))
        clear c2 HC1 HB12 HKC HDC HKC2 HDC2
        generalize wf.setCell ⟨dc, 0, none⟩ (.slice aj 64 cj) = wg at *
        have HOW := hid (HO.out.chg (Chg.of_below (by rw [← HZ.out]; exact HBW.out) []) (fun q hm => by cases hm))
        have HLC2 := hid ((HBW.out.block lc (by rw [HZ.out]; exact block_lt HLC.out)).trans HLC.out)
        have HRD2 := hid ((Chg.of_below (show Below wd.heap.size wd wg by rw [← HZ.out]; exact HBW.out) []).rdB HRJ.out (fun _ _ _ _ hm => by cases hm))
        have hfv : FnR wg pl p (fun q => B ≤ q ∧ q < wg.heap.size ∧ (Sl.mk sa j sc).v.ownBlock ≠ some q) (.func (.func 101) #[] #[.pointer (some ⟨lc, 0, none⟩), .pointer (some ⟨kc, 0, none⟩), .pointer (some ⟨dc, 0, none⟩)]) (.wr (at_ + j) (chunk l j)) := by
          have h1 := HKZ.out; have h2 := HKD.out; have h3 := HZ.out; have h4 := HWB.out; have h5 := HBW.out.size
          have h6 : ∀ q, q ≥ z → (Sl.mk sa j sc).v.ownBlock ≠ some q := fun q hq he => by have := (HO.out.own.lt q he).2; omega
          have h7 := block_lt HLC.out
          refine ⟨lc, kc, dc, aj, cj, rfl, HLC2.out, (by rw [← HAJE.out]; exact HKC3.out), HDC3.out, HRD2.out, HNJ.out, ⟨by have := HLB.out.1; omega, by omega, HLB.out.2⟩, ⟨by omega, h1.1, h6 _ h2.2.1⟩, ⟨by omega, h1.2, h6 _ h2.2.2⟩, fun b off sp hb => ?_⟩
          have h8 := HAJ.out b off sp hb
          exact ⟨h8.1, by omega, h8.2.2⟩
        have HFV := hid hfv
        clear hfv
        clear HO HLC HRJ
        go_upto_region 6 with (fail)
        go_wp2_with (first | (refine wpList_buildSlice rfl 150 152 1 _ rfl #[(Value.func (.func 101) #[] #[.pointer (some ⟨lc, 0, none⟩), .pointer (some ⟨kc, 0, none⟩), .pointer (some ⟨dc, 0, none⟩)])] i _ Try.underlying150 hi hz0 (by rw [hz1]; decide) (by rw [hz1]; decide) (by rw [hz1]; kernel_rfl) ?_) | (at_builtin; go_must (refine wpList_append_c rfl _ _ 150 rfl B 152 i _ 1 8 Try.underlying150 hi hz0 hz1 hz2 rfl (by decide) (.slice sa j sc) j _ rfl (HOW.out.below ((Below.refl _ _).alloc (Nat.le_refl _) _)).own _ 1 _ [(Value.func (.func 101) #[] #[.pointer (some ⟨lc, 0, none⟩), .pointer (some ⟨kc, 0, none⟩), .pointer (some ⟨dc, 0, none⟩)])] rfl (RdC.of_block1 (block_new wg _)) (by intro u hu; rw [List.mem_singleton.1 hu]; rfl) (fun hx => by cases hx) (by have := HOW.out.len; unfold maxLen; omega) (by have := HOW.out.len; omega) (by have := HWB.out; have := HBW.out.size; simp; omega) ?_); intro a' c' w8 hown hgw hfr; have HO8 := hid hown; have HG8 := hid hgw; have HF8 := hid hfr; clear hown hgw hfr))
        have hb7 : Below wg.heap.size wg (wg.alloc (.cells #[(Value.func (.func 101) #[] #[.pointer (some ⟨lc, 0, none⟩), .pointer (some ⟨kc, 0, none⟩), .pointer (some ⟨dc, 0, none⟩)])] 152)) := (Below.refl _ _).alloc (Nat.le_refl _) _
        have HO9 := hid (HOW.out.app (us := [(Value.func (.func 101) #[] #[.pointer (some ⟨lc, 0, none⟩), .pointer (some ⟨kc, 0, none⟩), .pointer (some ⟨dc, 0, none⟩)])]) (ys := [.wr (at_ + j) (chunk l j)]) hb7 rfl (fun k v x h1 h2 => by
          cases k with
          | zero =>
            simp only [List.getElem?_cons_zero, Option.some.injEq] at h1 h2
            rw [← h1, ← h2]; exact HFV.out
          | succ k => simp at h1) rfl HO8.out HG8.out HF8.out)
        have hc8 : Chg (Sl.mk sa j sc).v.ownBlock.toList wg w8 := (Chg.of_below hb7 _).grown HG8.out (fun k hk => .inl (by rw [show (Sl.mk sa j sc).v.ownBlock = some k from hk]; simp))
        have hmem : ∀ q ∈ (Sl.mk sa j sc).v.ownBlock.toList, (Sl.mk sa j sc).v.ownBlock = some q := fun q hq => by
          cases hv : (Sl.mk sa j sc).v.ownBlock with
          | none => rw [hv] at hq; cases hq
          | some y => rw [hv] at hq; simp at hq; rw [hq]
        have HLC9 := hid ((hc8.block lc (block_lt HLC2.out) (fun hm => HLB.out.2 (hmem lc hm))).trans HLC2.out)
        have HBW9 : Hid (Below w.heap.size w w8) := by
          have h1 : Below w.heap.size wd wg := HBW.out.mono (by rw [HZ.out]; exact HBWD.out.size)
          have h2 := hc8.below (B := w.heap.size) (fun q hq => by have := HLQ.out q (hmem q hq); omega) (Nat.le_trans HBWD.out.size h1.size)
          exact (HBWD.out.trans h1).trans h2
        have HNQ : Hid (∀ q, (Sl.mk a' (j + 1) c').v.ownBlock = some q → lc < q) := fun q hq => by
          rcases HF8.out with h' | h'
          · exact HLQ.out q (by rw [← show _ = (Sl.mk sa j sc).v.ownBlock from h']; exact hq)
          · have h3 := h' q hq
            have h4 := block_lt HLC2.out
            have h5 := hb7.size
            omega
        clear hb7 hc8 hmem HOW HO8 HG8 HF8 HFV HRD2 HKC3 HDC3
        have HRR0 : Hid (SeL at_ m l w pl p lc B (.slice a' (j + 1) c') (.int .i64 (J2 : Int)) w8) := by
          refine ⟨j + 1, a', c', _, by have := HJ2.out; have := HJ.out; show Value.int .i64 (J2 : Int) = _; congr 1; omega, rfl, by omega, by rw [secW_s]; exact HO9.out, HLC9.out, HBW9.out, fun he => by have := HNQ.out lc he; omega, by omega, HNQ.out⟩
        have hw64 : wrap64 ((J : Int) + 64) = (J2 : Int) := by have h1 := HJ2.out; have h2 := HN.out; unfold wrap64; omega
        have HW64 := hid hw64
        have HMS := hid (show J2 = J + 64 ∧ J < 64 * m by have := HJ.out; have := HJ2.out; omega)
        clear HO9 HLC9 HBW9 HNQ hw64
        go_wp2_with fail
        rw [HW64.out]
        have HRR := HRR0.out
        clear HW64 HHI HJ2 HRR0
        go_roundw
        case rel => first | exact HRR | ((repeat apply Exists.intro); exact HRR) | ((repeat apply Exists.intro); exact ⟨HRR, rfl⟩)
        case measure => (have h1 := HMS.out; clear HRR; simp [intOf] <;> omega)
    · have hltz : ¬ (J : Int) < (n : Int) := by have := HN.out; omega
      obtain rfl : j = m := by omega
      clear hJ
      go_wp2_with fail
      go_ret
      first | exact ⟨⟨sa, j, sc⟩, vs, rfl, rfl, HO.out, HBW0.out, fun q hq => by have := HLQ.out q hq; omega⟩ | exact ⟨⟨sa, j, sc⟩, rfl, rfl, ⟨vs, HO.out⟩, HBW0.out, fun q hq => by have := HLQ.out q hq; omega⟩
end Go.Proofs.Ytipkeifpkemcdaa
