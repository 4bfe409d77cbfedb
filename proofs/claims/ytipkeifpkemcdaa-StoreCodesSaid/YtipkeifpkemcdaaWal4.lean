/- wal.read of a sector of zeros: no head. -/
import Derived.Test.YtipkeifpkemcdaaWal3
import Derived.Test.YtipkeifpkemcdaaAgg
namespace Go.Proofs.Ytipkeifpkemcdaa
open Go.RowKit
set_option linter.unusedVariables false
set_option linter.unusedSimpArgs false
set_option maxRecDepth 100000
set_option maxHeartbeats 1600000
theorem headB_no : zeros ≠ headB 0 0 0 := by
  intro h
  have := congrArg (fun l => l[0]?) h
  simp [zeros, headB, padB, headX, markB] at this
theorem zn1 : num (taken (restOf zeros false 8) (lackOf zeros false 8) 8) = 0 := by kernel_rfl
theorem zn2 : asInt (num (taken (restOf (restOf zeros false 8) (lackOf zeros false 8) 8) (lackOf (restOf zeros false 8) (lackOf zeros false 8) 8) 4)) = 0 := by kernel_rfl
theorem zn3 : asInt (num (taken (restOf (restOf (restOf zeros false 8) (lackOf zeros false 8) 8) (lackOf (restOf zeros false 8) (lackOf zeros false 8) 8) 4) (lackOf (restOf (restOf zeros false 8) (lackOf zeros false 8) 8) (lackOf (restOf zeros false 8) (lackOf zeros false 8) 8) 4) 4)) = 0 := by kernel_rfl
theorem results_cell_tmpW {P : Program} {fn : Func} {p q : Tmp} {ty : TypeId} (h : fn.results = #[.cell p ty, .tmp q]) (tmps : Array Value) (w : World) (g : Nat) (t : TypeId) (cs : Array Value) (fr : Nat × Nat) (d : TypeDesc)
    (hp : tmps.getD p undef = .pointer (some ⟨g, 0, none⟩)) (hg : w.heap[g]? = some (.cells cs t fr))
    (hu : P.underlying ty = some d) (hd : (match d with | .struct _ | .array _ _ => true | _ => false) = true) (hi : (P.info? ty).map (·.size) = some cs.size) (v : Value) (hv : tmps.getD q undef = v) :
    (results fn tmps).run P w = .ok (.tuple #[.agg cs, v]) w := by
  have hp' : tmps[p]?.getD undef = .pointer (some ⟨g, 0, none⟩) := by simpa using hp
  have hv' : tmps[q]?.getD undef = v := by simpa using hv
  simp [results, h, hp', hv', asAddr, run_loadVar_row w g t ty cs fr d hg hu hd hi]
def stB64 (b0 : Nat) (l : List UInt8) : St (Chg [b0]) := ⟨fun v w => ∃ a c, v = .slice a 64 c ∧ RdB w a 64 l ∧ ∀ q off sp, a = some ⟨q, off, sp⟩ → q ≠ b0, fun v w w' h hg => let ⟨a, c, e, h1, h2⟩ := h; ⟨a, c, e, hg.rdB h1 (fun q off sp hq hm => h2 q off sp hq (List.mem_singleton.1 hm)), h2⟩⟩
def KeepB (b0 : Nat) (C : Array Value) (T : TypeId) (listed : Array Bool) (w : World) : Prop := w.heap[b0]? = some (.cells C T (0, 0))
theorem KeepB.same {b0 : Nat} {C : Array Value} {T : TypeId} {listed : Array Bool} {w : World} {i : Nat} (h : KeepB b0 C T listed w) (_ : true = true) : KeepB b0 C T (listed.setIfInBounds i true) w := h
theorem Chg.trans1' {b : Nat} (x y z : World) (h : Chg [b] x y) (k : Chg [b] y z) : Chg [b] x z := h.trans k (fun k hk => .inl hk)
theorem hZero : (Try.prog.info? 116).map (·.zero) = some (some (.agg (headArr 0 0 0))) := by kernel_rfl
theorem hSize : (Try.prog.info? 116).map (·.size) = some 3 := by kernel_rfl
theorem headArr_one (e : Nat) (a u : Int) : (headArr e a u).all (·.oneCell') = true := by simp [headArr, Value.oneCell']
theorem read0_any (p at_ : Nat) (s : DSt) (F : List Nat) (w : World) (h : Dk w p s F) (hat : at_ < s.sec.length) (hr : s.read at_ = (zeros, 0)) :
    Calls Try.prog 71 #[.pointer (some ⟨p, 0, none⟩), .int .i64 at_] w fun e w' => e = .returned (.tuple #[.agg (headArr 0 0 0), .bool false]) ∧ Below w.heap.size w w' := by
  have H := hid h; have HR := hid hr; clear h hr
  generalize hbe : w.heap.size = b
  have HBE := hid hbe; clear hbe
  go_enter Try.func71, Try.ntmps71
  go_wp2_with fail
  have hb1 : Below w.heap.size w (w.alloc (.cells (headArr 0 0 0) 116)) := (Below.refl _ _).alloc (Nat.le_refl _) _
  have hB0 : (w.alloc (.cells (headArr 0 0 0) 116)).heap[w.heap.size]? = some (.cells (headArr 0 0 0) 116 (0, 0)) := block_new _ _
  have HD1 := hid (H.out.below hb1)
  have HB1 := hid hb1; have HB0 := hid hB0
  clear hb1 hB0
  refine (read_any p at_ s F _ HD1.out hat).mono ?_
  rintro e w2 ⟨a2, n2, c2, rfl, hr2, hn2, hb2, hf2⟩
  rw [HR.out] at hr2 ⊢
  have hl2 : n2 = 64 := by rw [← hr2.len]; rfl
  subst hl2
  have HR2 := hid hr2; have HN2 := hid hn2; have HB2 := hid hb2; have HF2 := hid hf2
  clear hr2 hn2 hb2 hf2
  go_wp2_with fail
  refine (oNewReader_any a2 64 c2 zeros _ HR2.out HN2.out (by decide)).mono ?_
  rintro e w3 ⟨q, F3, rfl, hq3, hF3, hb3⟩
  have HQ3 := hid hq3; have HF3 := hid hF3; have HB3 := hid hb3
  clear hq3 hF3 hb3
  go_wp2_with fail
  refine (oTake_any q zeros false F3 8 _ HQ3.out (by decide)).mono ?_
  rintro e w4 ⟨a4, n4, c4, rfl, ho4, hc4, F4, hq4, hf4⟩
  have HQ4 := hid hq4; have HC4 := hid hc4; have HFR4 := hid hf4
  clear ho4 hc4 hq4 hf4
  go_wp2_with fail
  refine (oRU64_any q _ _ F4 _ HQ4.out (by decide)).mono ?_
  rintro e w5 ⟨rfl, hc5, F5, hq5, hf5⟩
  rw [zn1]
  have HQ5 := hid hq5; have HC5 := hid hc5; have HFR5 := hid hf5
  clear hc5 hq5 hf5
  go_wp2_with fail
  refine (oRU32_any q _ _ F5 _ HQ5.out (by decide)).mono ?_
  rintro e w6 ⟨rfl, hc6, F6, hq6, hf6⟩
  rw [zn2]
  have HQ6 := hid hq6; have HC6 := hid hc6; have HFR6 := hid hf6
  clear hc6 hq6 hf6
  go_wp2_with fail
  refine (oRU32_any q _ _ F6 _ HQ6.out (by decide)).mono ?_
  rintro e w7 ⟨rfl, hc7, F7, hq7, hf7⟩
  rw [zn3]
  have B27 : Hid (Below w2.heap.size w2 w7) := by
    have c7 := ((HC4.out.trans HC5.out (fun k hk => .inl hk)).trans HC6.out (fun k hk => .inl hk)).trans hc7 (fun k hk => .inl hk)
    exact HB3.out.trans (c7.below (fun k hk => by rw [List.mem_singleton.1 hk]; obtain ⟨_, _, _, _, _, _, _, _, _, hF⟩ := HQ3.out; exact HF3.out q (by rw [hF]; simp)) HB3.out.size)
  clear hc7 hq7 hf7 HC4 HC5 HC6 HFR4 HFR5 HFR6 HQ4 HQ5 HQ6 HQ3 HF3 HB3
  have HD7 := hid ((HD1.out.below HB2.out).below B27.out)
  have HR7 := hid (HR2.out.below B27.out)
  have HB07 := hid ((B27.out.block _ (by have := block_lt HB0.out; have := HB2.out.size; omega)).trans ((HB2.out.block _ (block_lt HB0.out)).trans HB0.out))
  have HB17 := hid (HB1.out.trans ((HB2.out.mono HB1.out.size).trans (B27.out.mono (Nat.le_trans HB1.out.size HB2.out.size))))
  clear HD1 HR2 HB0 HB1 HB2 B27
  go_upto_region 7 with (first | (refine wpList_alloc_obj rfl 116 rfl _ hZero ?_) | (refine wpList_store_obj rfl 116 _ _ rfl w7.heap.size rfl _ rfl _ _ (block_new w7 _) rfl hSize (headArr_one 0 0 0) ?_; intro w8 hb8 hc8 hs8; have HB8 := hid hb8; have HC8 := hid hc8; clear hb8 hc8 hs8))
  have B78 : Hid (Below w7.heap.size w7 w8) := ((Below.refl _ w7).alloc (Nat.le_refl _) _).trans (HC8.out.below (fun k hk => by rw [List.mem_singleton.1 hk]; exact Nat.le_refl _) (by simp))
  have HR8 := hid (HR7.out.below B78.out)
  have HB08 := hid ((B78.out.block _ (block_lt HB07.out)).trans HB07.out)
  have HB18 := hid (HB17.out.trans (B78.out.mono HB17.out.size))
  have HPN0 : Hid (w7.heap.size ≠ w.heap.size) := by have := block_lt HB07.out; show _ ≠ _; omega
  have HA2 : Hid (∀ q off sp, a2 = some ⟨q, off, sp⟩ → q ≠ w.heap.size) := fun q off sp hq => by have := (HF2.out q off sp hq).1; simp at this; omega
  clear HC8 HR7 HB07 HB17 B78 HD7
  generalize w7.heap.size = px at *
  have HPN : Hid (px ≠ w.heap.size) := HPN0.out
  refine wp_region_eachX (m := 19) (Chg [w.heap.size]) [.eq (.agg (headArr 0 0 0)), .eq (.slice a2 64 c2), .eq (.agg (headArr 0 0 0)), stB64 w.heap.size (headB 0 0 0), .eq (.bool false), .eq (.bool false), .eq undef, .eq undef, .eq undef, .eq (.bool false), .eq (.bool false), .eq undef, .eq undef, .eq undef, .eq undef, .eq undef, .eq (.bool false), .eq (undef), .eq (.bool false)] (KeepB w.heap.size (headArr 0 0 0) 116) (by kernel_rfl) (by kernel_rfl) (by kernel_rfl) (by kernel_rfl) (Chg.trans1') (by exact (Chg.refl _ _).drew) (by exact HB08.out) ?_ ?_
  · as_aux_lemma =>
      refine each_5 ?_ ?_ ?_ ?_ ?_ (each_5 ?_ ?_ ?_ ?_ ?_ (each_5 ?_ ?_ ?_ ?_ ?_ (each_c ?_ (each_c ?_ (each_c ?_ (each_c ?_ (each_n)))))))
      · intro w1 hg listed up hx Ar seen
        have s9 := seen.sl 9 (.pointer (some ⟨px, 0, none⟩))
        refine doesY_plain rfl fun K Q' hK => ?_
        refine wp_load_row 116 _ rfl px (by simp [Act.eval, s9]) _ _ _ _ ((hg.block _ (block_lt HB8.out) (by simp; exact HPN.out)).trans HB8.out) Try.underlying116 rfl hSize ?_
        exact hK _ _ (Chg.refl _ _) (hx.same (by kernel_rfl)) rfl
      · intro w1 hg listed up hx Ar seen
        have s6 := seen.sl 6 (.slice a2 64 c2)
        refine doesY_plain rfl fun K Q' hK => ?_
        go_simp; exact hK _ _ (Chg.refl _ _) (hx.same (by kernel_rfl)) rfl
      · intro w1 hg listed up hx Ar seen
        have s9 := seen.sl 9 (.pointer (some ⟨px, 0, none⟩))
        refine doesY_plain rfl fun K Q' hK => ?_
        refine wp_load_row 116 _ rfl px (by simp [Act.eval, s9]) _ _ _ _ ((hg.block _ (block_lt HB8.out) (by simp; exact HPN.out)).trans HB8.out) Try.underlying116 rfl hSize ?_
        exact hK _ _ (Chg.refl _ _) (hx.same (by kernel_rfl)) rfl
      · intro w1 hg listed up hx Ar seen
        have e2 := seen.de 2 32
        refine doesY_plain rfl fun K Q' hK => ?_
        have hlt := block_lt hx
        go_simp
        refine (headBytes_any 0 0 0 _ (by decide)).mono ?_
        rintro e u ⟨a', c', rfl, ho, hb⟩
        exact hK _ _ (Chg.of_below hb _) ((hb.block _ hlt).trans hx) ⟨a', c', rfl, RdB.of_own ho, fun q off sp hq hqe => by have := (ho.lt q (by rw [hq]; rfl)).1; omega⟩
      · intro w1 hg listed up hx Ar seen
        have e1 := seen.de 1 31
        obtain ⟨v3, e3, h3⟩ := seen.dp 3 33
        refine doesY_plain rfl fun K Q' hK => ?_
        obtain ⟨a', c', rfl, h3, -⟩ := h3
        have hlt := block_lt hx
        go_simp
        refine (equalB_any a2 a' 64 c2 64 c' zeros (headB 0 0 0) _ (hg.rdB HR8.out (fun q off sp hq hm => HA2.out q off sp hq (List.mem_singleton.1 hm))) h3 (by decide)).mono ?_
        rintro e u ⟨rfl, hb⟩
        exact hK _ _ (Chg.of_below hb _) ((hb.block _ hlt).trans hx) (congrArg Value.bool (decide_eq_false headB_no))
      · intro w1 hg listed up hx Ar seen
        have e4 := seen.de 4 34
        refine doesY_plain rfl fun K Q' hK => ?_
        go_simp; exact hK _ _ (Chg.refl _ _) (hx.same (by kernel_rfl)) rfl
      · intro w1 hg listed up hx Ar seen
        have e5 := seen.de 5 35
        exact doesY_off rfl (by kernel_rfl) e5 ne_ft (Chg.refl _ _) (hx.same (by kernel_rfl)) rfl
      · intro w1 hg listed up hx Ar seen
        have e5 := seen.de 5 35
        exact doesY_off rfl (by kernel_rfl) e5 ne_ft (Chg.refl _ _) (hx.same (by kernel_rfl)) rfl
      · intro w1 hg listed up hx Ar seen
        have e5 := seen.de 5 35
        exact doesY_off rfl (by kernel_rfl) e5 ne_ft (Chg.refl _ _) (hx.same (by kernel_rfl)) rfl
      · intro w1 hg listed up hx Ar seen
        have e5 := seen.de 5 35
        have e8 := seen.de 8 38
        refine doesY_plain rfl fun K Q' hK => ?_
        go_simp; exact hK _ _ (Chg.refl _ _) (hx.same (by kernel_rfl)) rfl
      · intro w1 hg listed up hx Ar seen
        have e9 := seen.de 9 39
        refine doesY_plain rfl fun K Q' hK => ?_
        go_simp; exact hK _ _ (Chg.refl _ _) (hx.same (by kernel_rfl)) rfl
      · intro w1 hg listed up hx Ar seen
        have e10 := seen.de 10 40
        exact doesY_off rfl (by kernel_rfl) e10 ne_ft (Chg.refl _ _) (hx.same (by kernel_rfl)) rfl
      · intro w1 hg listed up hx Ar seen
        have e10 := seen.de 10 40
        exact doesY_off rfl (by kernel_rfl) e10 ne_ft (Chg.refl _ _) (hx.same (by kernel_rfl)) rfl
      · intro w1 hg listed up hx Ar seen
        have e10 := seen.de 10 40
        exact doesY_off rfl (by kernel_rfl) e10 ne_ft (Chg.refl _ _) (hx.same (by kernel_rfl)) rfl
      · intro w1 hg listed up hx Ar seen
        have e10 := seen.de 10 40
        exact doesY_off rfl (by kernel_rfl) e10 ne_ft (Chg.refl _ _) (hx.same (by kernel_rfl)) rfl
      · intro w1 hg listed up hx Ar seen
        have e10 := seen.de 10 40
        exact doesY_off rfl (by kernel_rfl) e10 ne_ft (Chg.refl _ _) (hx.same (by kernel_rfl)) rfl
      · intro w1 hg listed up hx Ar seen
        have e10 := seen.de 10 40
        have e15 := seen.de 15 45
        refine doesY_plain rfl fun K Q' hK => ?_
        go_simp; exact hK _ _ (Chg.refl _ _) (hx.same (by kernel_rfl)) rfl
      · intro w1 hg listed up hx Ar seen
        have e0 := seen.de 0 30
        have s4 := seen.sl 4 (.pointer (some ⟨w.heap.size, 0, none⟩))
        refine doesY_plain rfl fun K Q' hK => ?_
        refine wp_store_obj 116 _ _ rfl w.heap.size (by simp [Act.eval, s4]) (headArr 0 0 0) (by simp [Act.eval, e0]) _ _ hx rfl hSize (headArr_one 0 0 0) ?_
        intro w2 hb2 hc2 hs2
        exact hK undef _ hc2 hb2 rfl
      · intro w1 hg listed up hx Ar seen
        have e16 := seen.de 16 46
        refine doesY_plain rfl fun K Q' hK => ?_
        go_simp; exact hK _ _ (Chg.refl _ _) (hx.same (by kernel_rfl)) rfl
  intro w1 hg listed hl hx
  refine upon_w' (js := [0, 1, 2, 3, 4, 5, 6, 7, 8, 9, 10, 11, 12, 13, 14, 15, 16, 17, 18]) (by rfl) ?_
  refine upon_e (some 30) (upon_e (some 31) (upon_e (some 32) (upon_v (some 33) fun v3 h3 => upon_e (some 34) (upon_e (some 35) (upon_e (some 36) (upon_e (some 37) (upon_e (some 38) (upon_e (some 39) (upon_e (some 40) (upon_e (some 41) (upon_e (some 42) (upon_e (some 43) (upon_e (some 44) (upon_e (some 45) (upon_e (some 46) (upon_e none (upon_e (some 5) (upon_n ?_))))))))))))))))))
  go_simp
  have hx2 : w1.heap[w.heap.size]? = some (.cells (headArr 0 0 0) 116 (0, 0)) := hx
  have hbz : Below w.heap.size w w1 := HB18.out.trans (hg.below (fun q hq => by rw [List.mem_singleton.1 hq]; exact Nat.le_refl _) HB18.out.size)
  have HBZ := hid hbz
  clear hbz hg hx hl h3
  go_wp2_with fail
  refine bodyPost_ret (results_cell_tmpW rfl _ _ w.heap.size _ _ _ _ rfl hx2 Try.underlying116 rfl hSize _ rfl) rfl ?_
  exact ⟨rfl, by rw [← HBE.out]; exact HBZ.out⟩
end Go.Proofs.Ytipkeifpkemcdaa
