/- object.Read: the walk. -/
import Derived.Test.YtdlkobmlnpijgaaDoorRdO
import Derived.Test.YtdlkobmlnpijgaaDoorEqual
namespace Go.Proofs.YtdlkobmlnpijgaaDoor
open Go.RowKit
set_option linter.unusedVariables false
set_option linter.unusedSimpArgs false
set_option maxRecDepth 1000000
set_option maxHeartbeats 6400000
/-- The last region's state: the reader, and the object's box. -/
def RdX10 (T OT : TypeId) (p ob : Nat) (F : List Nat) (s0 : PS) (c : List (Nat × PS)) (C C' : Array Value) (listed : Array Bool) (w : World) : Prop :=
  RdX T p F s0 c listed w ∧ w.heap[ob]? = some (.cells (if listed.getD 7 false = true then C' else C) OT (0, 0))
section
variable {T OT : TypeId} {p ob : Nat} {F : List Nat} {s0 s' : PS} {c : List (Nat × PS)} {C C' : Array Value} {listed : Array Bool} {w w' : World} {i : Nat}
theorem RdX10.start (h : RdS T w p s0 F) (hb : w.heap[ob]? = some (.cells C OT (0, 0))) (n : Nat) : RdX10 T OT p ob F s0 c C C' (Array.replicate n false) w.drew := by
  have e : ∀ k, (Array.replicate n false).getD k false = false := fun k => by simp only [Array.getD_eq_getD_getElem?]; rcases Nat.lt_or_ge k n with h' | h' <;> simp [h', Nat.not_lt.2]
  refine ⟨RdX.start h n, ?_⟩
  rw [e]
  exact hb
theorem RdX10.same (h : RdX10 T OT p ob F s0 c C C' listed w) (hi : ((c.all fun x => x.1 != i) && i != 7) = true) : RdX10 T OT p ob F s0 c C C' (listed.setIfInBounds i true) w := by
  simp only [Bool.and_eq_true, bne_iff_ne, ne_eq] at hi
  refine ⟨h.1.same hi.1, ?_⟩
  rw [getD_set_ne false hi.2]
  exact h.2
theorem RdX10.step (h : RdX10 T OT p ob F s0 c C C' listed w) (m : Nat) (hm : c[m]? = some (i, s')) (hs : listed.getD i false = false) (hp : m = 0 ∨ ∃ q, c[m - 1]? = some q ∧ listed.getD q.1 false = true) (hn : (c.map (·.1)).Nodup) (hi : i < listed.size) (h7 : i ≠ 7)
    (hc : Chg [p] w w') (ho : ob ≠ p) (h' : RdS T w' p s' F) : RdX10 T OT p ob F s0 c C C' (listed.setIfInBounds i true) w' := by
  refine ⟨h.1.step m hm hs hp hn hi h', ?_⟩
  rw [getD_set_ne false h7]
  exact (hc.block _ (block_lt h.2) (nin1 ho)).trans h.2
theorem RdX10.put (h : RdX10 T OT p ob F s0 c C C' listed w) (hi : 7 < listed.size) (hn : (c.all fun x => x.1 != 7) = true) (hc : Chg [ob] w w') (hF : ∀ k ∈ F, k ≠ ob) (hb : w'.heap[ob]? = some (.cells C' OT (0, 0))) : RdX10 T OT p ob F s0 c C C' (listed.setIfInBounds 7 true) w' := by
  refine ⟨RdX.same (h.1.world fun s hs => hs.keep hc (fun k hk hm => hF k hk (List.mem_singleton.1 hm))) hn, ?_⟩
  rw [show (listed.setIfInBounds 7 true).getD 7 false = true by simp [hi]]
  exact hb
theorem RdX10.old (h : RdX10 T OT p ob F s0 c C C' listed w) (h7 : listed.getD 7 false = false) : w.heap[ob]? = some (.cells C OT (0, 0)) := by
  have := h.2; rw [h7] at this; exact this
end
theorem Chg.same2 {p q : Nat} (a b c : World) (h : Chg [p, q] a b) (k : Chg [p, q] b c) : Chg [p, q] a c := h.trans k (fun q hq => .inl hq)
theorem read10_any (ab : Option Addr) (n c : Nat) (l : List UInt8) (w : World) (hb : RdB w ab n l) (hnone : ab = none → c = 0) (hlen : n ≤ 140737488355328) (hT : UT w) :
    Calls Tryd.prog 11 #[.slice ab n c] w (ReadRes l w) := by
  have HRB := hid hb; have HT0 := hid hT
  have HLN : Hid (l.length ≤ 140737488355328) := by show _ ≤ _; rw [hb.len]; exact hlen
  have hmf : ∀ (fn : Fn) (first cap : Array Value) (w : World), (Instr.makeFunc fn first cap).run Tryd.prog w = .ok (.func fn first cap) w := fun _ _ _ _ => rfl
  clear hb hT
  generalize hbe : w.heap.size = b
  have HBE := hid hbe; clear hbe
  go_enter Tryd.func11, Tryd.ntmps11
  go_upto_region 1 with (refine wpList_alloc_obj rfl 35 rfl _ oZeroO ?_)
  go_simp
  have h1 := block_new w (.cells (objCells zObj zObjV) 35)
  have h2 : Below w.heap.size w (w.alloc (.cells (objCells zObj zObjV) 35)) := (Below.refl _ _).alloc (Nat.le_refl _) _
  have h3 : (w.alloc (.cells (objCells zObj zObjV) 35)).heap.size = w.heap.size + 1 := by simp
  have HRB1 := hid (HRB.out.below h2)
  rw [HBE.out] at h1 h2 h3 ⊢
  generalize w.alloc (.cells (objCells zObj zObjV) 35) = W0 at *
  have HRS := hid h1; have HBL := hid h2; have HSZ := hid h3
  clear h1 h2 h3
  go_wp2_with fail
  refine (oNewReader_any ab n c l W0 HRB1.out hnone hlen).mono ?_
  rintro e W1 ⟨p, F, rfl, hrd, hFl, hb1⟩
  dsimp only
  have HRD := hid hrd; have HFL0 := hid hFl; have HFH := hid hrd.lt
  have HRS1 := hid ((hb1.block _ (block_lt HRS.out)).trans HRS.out)
  have HBL1 := hid (HBL.out.trans (hb1.mono (by rw [HSZ.out]; omega)))
  clear hrd hFl hb1 HRS HBL HRB1
  go_upto_region 2 with (fail)
  have hb2 : Below W1.heap.size W1 (W1.alloc (.cells #[.pointer (some ⟨p, 0, none⟩)] 72)) := (Below.refl _ _).alloc (Nat.le_refl _) _
  have h1 := block_new W1 (.cells #[.pointer (some ⟨p, 0, none⟩)] 72)
  have h3 : (W1.alloc (.cells #[.pointer (some ⟨p, 0, none⟩)] 72)).heap.size = W1.heap.size + 1 := by simp
  have HRS2 := hid ((hb2.block _ (block_lt HRS1.out)).trans HRS1.out)
  have HBL2 := hid (HBL1.out.trans (hb2.mono (by have := block_lt HRS1.out; omega)))
  have HRD2 : Hid (RdS 121 (W1.alloc (.cells #[.pointer (some ⟨p, 0, none⟩)] 72)) p (l, false) F) := ⟨HLN.out, F, HRD.out.keep (Chg.of_below hb2 []) (fun _ _ hm => by cases hm), fun q hq => hq⟩
  obtain ⟨pv, hpv⟩ : ∃ q, q = W1.heap.size := ⟨_, rfl⟩
  have HORD : Hid (b < p ∧ p < pv ∧ ∀ k ∈ F, b < k ∧ k < pv) := by
    have hp := HRD2.out.mem
    have hk : ∀ k ∈ F, b < k ∧ k < pv := fun k hk => by have h1 := HFL0.out k hk; have h2 := HFH.out k hk; rw [HSZ.out] at h1; omega
    exact ⟨(hk p hp).1, (hk p hp).2, hk⟩
  rw [← hpv] at h1 h3 ⊢
  generalize W1.alloc (.cells #[.pointer (some ⟨p, 0, none⟩)] 72) = W at *
  have HV := hid h1; have HSZ2 := hid h3
  have NV := hid (nin1 (show pv ≠ p by have := HORD.out.2.1; omega))
  have hpb : p < W.heap.size := by have := HORD.out.2.1; have := HSZ2.out; omega
  have HFL : Hid (∀ k ∈ F, k < W.heap.size) := fun k hk => by have := (HORD.out.2.2 k hk).2; have := HSZ2.out; omega
  clear h1 h3 hb2 hpv HRD HFL0 HFH HRS1 HBL1 HSZ
  refine wp_region_eachX (m := 22) (Chg [p]) [.eq (.agg #[.pointer (some ⟨p, 0, none⟩)]), .eq (.string (q1 (l, false)).1), .eq (.pointer (some ⟨pv, 0, none⟩)), .eq (.pointer (some ⟨p, 0, none⟩)), .eq (.int .i64 (q2 (l, false)).1), .eq (.pointer (some ⟨pv, 0, none⟩)), .eq (.pointer (some ⟨p, 0, none⟩)), .eq (.int .i64 (q3 (l, false)).1), .eq (.pointer (some ⟨pv, 0, none⟩)), .eq (.pointer (some ⟨p, 0, none⟩)), .eq (.int .i64 (q4 (l, false)).1), .eq (.pointer (some ⟨pv, 0, none⟩)), .eq (.pointer (some ⟨p, 0, none⟩)), .eq (.int .i64 (q5 (l, false)).1), .eq (.pointer (some ⟨pv, 0, none⟩)), .eq (.pointer (some ⟨p, 0, none⟩)), stRow p W.heap.size hpb 5 1 65535 ((q6 (l, false)).1.map B8), .eq (.pointer (some ⟨pv, 0, none⟩)), .eq (.pointer (some ⟨p, 0, none⟩)), .eq (.int .i64 (q7 (l, false)).1), stObjA p W.heap.size hpb 5 65535 (oA (l, false)), stBox p W.heap.size hpb 35] (RdX 121 p F (l, false) [(1, (q1 (l, false)).2), (4, (q2 (l, false)).2), (7, (q3 (l, false)).2), (10, (q4 (l, false)).2), (13, (q5 (l, false)).2), (16, (q6 (l, false)).2), (19, (q7 (l, false)).2)]) (by kernel_rfl) (by kernel_rfl) (by kernel_rfl) (by kernel_rfl) (Chg.same1) (by exact (Chg.refl _ _).drew) (by exact RdX.start HRD2.out _) ?_ ?_
  · all_goals
      refine each_5 ?_ ?_ ?_ ?_ ?_ (each_5 ?_ ?_ ?_ ?_ ?_ (each_5 ?_ ?_ ?_ ?_ ?_ (each_5 ?_ ?_ ?_ ?_ ?_ (each_c ?_ (each_c ?_ (each_n))))))
      · intro w1 hg listed up hx Ar seen
        have s4 := seen.sl 4 (.pointer (some ⟨pv, 0, none⟩))
        refine doesY_plain rfl fun K Q' hK => ?_
        have hc := cell_of_block (j := 0) ((hg.block _ (block_lt HV.out) NV.out).trans HV.out) rfl
        go_simp; exact hK _ _ (Chg.refl _ _) (hx.same (by kernel_rfl)) rfl
      · intro w1 hg listed up hx Ar seen
        have e0 := seen.de 0 12
        refine doesY_plain rfl fun K Q' hK => ?_
        have hs := hx.at0 rfl up.self
        go_simp
        refine (ptext_any p (l, false) F _ hs).mono ?_
        rintro e u ⟨rfl, hc, hr⟩
        exact hK _ _ hc (hx.step 0 rfl up.self (.inl rfl) (by simp) up.lt' hr) rfl
      · intro w1 hg listed up hx Ar seen
        have s4 := seen.sl 4 (.pointer (some ⟨pv, 0, none⟩))
        refine doesY_plain rfl fun K Q' hK => ?_
        go_simp; exact hK _ _ (Chg.refl _ _) (hx.same (by kernel_rfl)) rfl
      · intro w1 hg listed up hx Ar seen
        have e2 := seen.de 2 14
        refine doesY_plain rfl fun K Q' hK => ?_
        have hc := cell_of_block (j := 0) ((hg.block _ (block_lt HV.out) NV.out).trans HV.out) rfl
        go_simp; exact hK _ _ (Chg.refl _ _) (hx.same (by kernel_rfl)) rfl
      · intro w1 hg listed up hx Ar seen
        have e3 := seen.de 3 15
        refine doesY_plain rfl fun K Q' hK => ?_
        have hs := hx.at1 0 rfl rfl up.self (up.did 1 (by decide))
        go_simp
        refine (soU8_any p (q1 (l, false)).2 F _ hs).mono ?_
        rintro e u ⟨rfl, hc, hr⟩
        exact hK _ _ hc (hx.step 1 rfl up.self (.inr ⟨_, rfl, up.did 1 (by decide)⟩) (by simp) up.lt' hr) rfl
      · intro w1 hg listed up hx Ar seen
        have s4 := seen.sl 4 (.pointer (some ⟨pv, 0, none⟩))
        refine doesY_plain rfl fun K Q' hK => ?_
        go_simp; exact hK _ _ (Chg.refl _ _) (hx.same (by kernel_rfl)) rfl
      · intro w1 hg listed up hx Ar seen
        have e5 := seen.de 5 17
        refine doesY_plain rfl fun K Q' hK => ?_
        have hc := cell_of_block (j := 0) ((hg.block _ (block_lt HV.out) NV.out).trans HV.out) rfl
        go_simp; exact hK _ _ (Chg.refl _ _) (hx.same (by kernel_rfl)) rfl
      · intro w1 hg listed up hx Ar seen
        have e6 := seen.de 6 18
        refine doesY_plain rfl fun K Q' hK => ?_
        have hs := hx.at1 1 rfl rfl up.self (up.did 4 (by decide))
        go_simp
        refine (soU8_any p (q2 (l, false)).2 F _ hs).mono ?_
        rintro e u ⟨rfl, hc, hr⟩
        exact hK _ _ hc (hx.step 2 rfl up.self (.inr ⟨_, rfl, up.did 4 (by decide)⟩) (by simp) up.lt' hr) rfl
      · intro w1 hg listed up hx Ar seen
        have s4 := seen.sl 4 (.pointer (some ⟨pv, 0, none⟩))
        refine doesY_plain rfl fun K Q' hK => ?_
        go_simp; exact hK _ _ (Chg.refl _ _) (hx.same (by kernel_rfl)) rfl
      · intro w1 hg listed up hx Ar seen
        have e8 := seen.de 8 20
        refine doesY_plain rfl fun K Q' hK => ?_
        have hc := cell_of_block (j := 0) ((hg.block _ (block_lt HV.out) NV.out).trans HV.out) rfl
        go_simp; exact hK _ _ (Chg.refl _ _) (hx.same (by kernel_rfl)) rfl
      · intro w1 hg listed up hx Ar seen
        have e9 := seen.de 9 21
        refine doesY_plain rfl fun K Q' hK => ?_
        have hs := hx.at1 2 rfl rfl up.self (up.did 7 (by decide))
        go_simp
        refine (soU32_any p (q3 (l, false)).2 F _ hs).mono ?_
        rintro e u ⟨rfl, hc, hr⟩
        exact hK _ _ hc (hx.step 3 rfl up.self (.inr ⟨_, rfl, up.did 7 (by decide)⟩) (by simp) up.lt' hr) rfl
      · intro w1 hg listed up hx Ar seen
        have s4 := seen.sl 4 (.pointer (some ⟨pv, 0, none⟩))
        refine doesY_plain rfl fun K Q' hK => ?_
        go_simp; exact hK _ _ (Chg.refl _ _) (hx.same (by kernel_rfl)) rfl
      · intro w1 hg listed up hx Ar seen
        have e11 := seen.de 11 23
        refine doesY_plain rfl fun K Q' hK => ?_
        have hc := cell_of_block (j := 0) ((hg.block _ (block_lt HV.out) NV.out).trans HV.out) rfl
        go_simp; exact hK _ _ (Chg.refl _ _) (hx.same (by kernel_rfl)) rfl
      · intro w1 hg listed up hx Ar seen
        have e12 := seen.de 12 24
        refine doesY_plain rfl fun K Q' hK => ?_
        have hs := hx.at1 3 rfl rfl up.self (up.did 10 (by decide))
        go_simp
        refine (soU32_any p (q4 (l, false)).2 F _ hs).mono ?_
        rintro e u ⟨rfl, hc, hr⟩
        exact hK _ _ hc (hx.step 4 rfl up.self (.inr ⟨_, rfl, up.did 10 (by decide)⟩) (by simp) up.lt' hr) rfl
      · intro w1 hg listed up hx Ar seen
        have s4 := seen.sl 4 (.pointer (some ⟨pv, 0, none⟩))
        refine doesY_plain rfl fun K Q' hK => ?_
        go_simp; exact hK _ _ (Chg.refl _ _) (hx.same (by kernel_rfl)) rfl
      · intro w1 hg listed up hx Ar seen
        have e14 := seen.de 14 26
        refine doesY_plain rfl fun K Q' hK => ?_
        have hc := cell_of_block (j := 0) ((hg.block _ (block_lt HV.out) NV.out).trans HV.out) rfl
        go_simp; exact hK _ _ (Chg.refl _ _) (hx.same (by kernel_rfl)) rfl
      · intro w1 hg listed up hx Ar seen
        have e15 := seen.de 15 27
        refine doesY_plain rfl fun K Q' hK => ?_
        have hs := hx.at1 4 rfl rfl up.self (up.did 13 (by decide))
        go_simp
        refine (soShort_any p (q5 (l, false)).2 F _ hs).mono ?_
        rintro e u ⟨a2, n2, c2, rfl, ho, hc, hr⟩
        exact hK _ _ hc (hx.step 5 rfl up.self (.inr ⟨_, rfl, up.did 13 (by decide)⟩) (by simp) up.lt' hr) ⟨a2, n2, c2, rfl, by have h1 := ho.1; have h2 := pS_le (q5 (l, false)).2; simp at h1; omega, own_low ho hg.size⟩
      · intro w1 hg listed up hx Ar seen
        have s4 := seen.sl 4 (.pointer (some ⟨pv, 0, none⟩))
        refine doesY_plain rfl fun K Q' hK => ?_
        go_simp; exact hK _ _ (Chg.refl _ _) (hx.same (by kernel_rfl)) rfl
      · intro w1 hg listed up hx Ar seen
        have e17 := seen.de 17 29
        refine doesY_plain rfl fun K Q' hK => ?_
        have hc := cell_of_block (j := 0) ((hg.block _ (block_lt HV.out) NV.out).trans HV.out) rfl
        go_simp; exact hK _ _ (Chg.refl _ _) (hx.same (by kernel_rfl)) rfl
      · intro w1 hg listed up hx Ar seen
        have e18 := seen.de 18 30
        refine doesY_plain rfl fun K Q' hK => ?_
        have hs := hx.at1 5 rfl rfl up.self (up.did 16 (by decide))
        go_simp
        refine (soU8_any p (q6 (l, false)).2 F _ hs).mono ?_
        rintro e u ⟨rfl, hc, hr⟩
        exact hK _ _ hc (hx.step 6 rfl up.self (.inr ⟨_, rfl, up.did 16 (by decide)⟩) (by simp) up.lt' hr) rfl
      · intro w1 hg listed up hx Ar seen
        have e1 := seen.de 1 13
        have e4 := seen.de 4 16
        have e7 := seen.de 7 19
        have e10 := seen.de 10 22
        have e13 := seen.de 13 25
        obtain ⟨v16, e16, h16⟩ := seen.dp 16 28
        have e19 := seen.de 19 31
        refine doesY_plain rfl fun K Q' hK => ?_
        obtain ⟨a2, n2, c2, rfl, hn2, ho⟩ := h16
        refine wp_build_obj 35 _ rfl #[(0, .string (q1 (l, false)).1), (1, .int .i64 (q2 (l, false)).1), (2, .int .i64 (q3 (l, false)).1), (3, .int .i64 (q4 (l, false)).1), (4, .int .i64 (q5 (l, false)).1), (5, .slice a2 n2 c2), (6, .int .i64 (q7 (l, false)).1)] (by simp [Act.eval, e1, e4, e7, e10, e13, e16, e19]) _ (buildA _ _ _ _ _ _ _ _ _ (q6 (l, false)).1 _) ?_
        exact hK _ _ (Chg.refl _ _) (hx.same (by kernel_rfl)) ⟨a2, n2, c2, rfl, hn2, ho⟩
      · intro w1 hg listed up hx Ar seen
        refine doesY_plain rfl fun K Q' hK => ?_
        refine wp_alloc_obj 35 rfl _ oZeroO ?_
        exact hK _ _ ((Chg.refl _ _).alloc _) (RdX.same (hx.world fun s hs => hs.below ((Below.refl _ _).alloc (Nat.le_refl _) _)) (by kernel_rfl)) ⟨_, rfl, hg.size, block_new _ _⟩
  intro w1 hg listed hl hx
  refine upon_w' (js := [0, 1, 2, 3, 4, 5, 6, 7, 8, 9, 10, 11, 12, 13, 14, 15, 16, 17, 18, 19, 20, 21]) (by rfl) ?_
  refine upon_e (some 12) (upon_e (some 13) (upon_e (some 14) (upon_e (some 15) (upon_e (some 16) (upon_e (some 17) (upon_e (some 18) (upon_e (some 19) (upon_e (some 20) (upon_e (some 21) (upon_e (some 22) (upon_e (some 23) (upon_e (some 24) (upon_e (some 25) (upon_e (some 26) (upon_e (some 27) (upon_v (some 28) fun v16 h16 => upon_e (some 29) (upon_e (some 30) (upon_e (some 31) (upon_v (some 32) fun v20 h20 => upon_v (some 5) fun v21 h21 => upon_n ?_)))))))))))))))))))
  obtain ⟨a2, n2, c2, rfl, hn2, ho2⟩ := h20
  obtain ⟨ob, rfl, hob, hbx⟩ := h21
  clear h16
  go_simp
  have hord := HORD.out
  have hne : ∀ q, (Value.slice a2 n2 c2).ownBlock = some q → q ≠ ob := fun q hq e => own_ne_block ho2 hbx (by decide) (e ▸ hq)
  have S0 : Hid (RdO 35 72 121 zObj zObjV w b pv p ob F (q7 (l, false)).2 w1) :=
    ⟨(hg.block _ (block_lt HRS2.out) (nin1 (by omega))).trans HRS2.out, (hg.block _ (block_lt HV.out) NV.out).trans HV.out, hbx, hx.end1 hl (by kernel_rfl) rfl, ObjM.zero _, (fun k hk => by simp [zObjV, ObjV.foot, Sl.blk] at hk),
      HBL2.out.trans (hg.below (fun k hk => by have := List.mem_singleton.1 hk; omega) (by have := block_lt HRS2.out; omega)), ⟨hord.1, hord.2.1, by have := HSZ2.out; omega⟩, hord.2.2⟩
  have HM1 : Hid (ObjM w1 (oA (l, false)) { mat := ⟨a2, n2, c2⟩ }) := by
    have hz := ObjM.zero w1
    exact ⟨SlR.of_own (s := ⟨a2, n2, c2⟩) ho2 (Nat.le_trans hn2 (by decide)), hz.names, hz.links, hz.custom, rfl⟩
  have HFT : Hid (∀ k ∈ ({ mat := ⟨a2, n2, c2⟩ } : ObjV).foot, pv < k ∧ k ≠ ob) := fun k hk => by
    have hk' : k ∈ (Sl.blk ⟨a2, n2, c2⟩) := by simpa [ObjV.foot, Sl.blk] using hk
    have h1 := blk_own (s := ⟨a2, n2, c2⟩) ho2 k hk'
    refine ⟨by have := HSZ2.out; omega, hne k ?_⟩
    cases a2 with
    | none => simp [Sl.blk] at hk'
    | some x =>
      have hz := (own_slice ho2)
      simp [Sl.blk] at hk'
      subst hk'
      rcases ho2.2 with ⟨hv, _⟩ | ⟨g, cap, cur, hv, _⟩
      · cases hv
      · cases hv; rfl
  clear hne ho2 hbx hg hx hl HV NV HRS2 HBL2 HRD2 HFL HSZ2 hord
  go_wp2_with (refine wpList_store_obj rfl 35 _ _ rfl ob rfl _ rfl _ _ S0.out.box rfl (by rw [objCells_size]; exact oSizeO) (oc_one _ _) ?_; intro w2 hb2 hc2 hs2; have S1 := hid (S0.out.store hc2 hb2 HM1.out HFT.out); clear hb2 hc2 hs2 S0 HM1 HFT)
  generalize ({ mat := ⟨a2, n2, c2⟩ } : ObjV) = s at *
  go_loopw [33] (fun y wr => ∃ k : Nat, k ≤ 10 ∧ y = .int .i64 k ∧ RdO 35 72 121 (oB false (l, false) k) s w b pv p ob F (rep (dateP false) k (q7 (l, false)).2).2 wr) (fun y _ => 10 - (intOf y).toNat)
  case atStart => exact ⟨0, by omega, rfl, by rw [oB_zero, rep_zero]; exact S1.out⟩
  case round =>
    obtain ⟨k, hk, rfl, hs⟩ := hrel
    clear S1
    have S := hid hs; clear hs
    by_cases hlt : k < 10
    · have d0 := S.out.ptr
      go_wp2_with fail
      refine (pdate_any p _ F _ S.out.rd S.out.flt).mono ?_
      rintro e W3 ⟨rfl, hc, hr⟩
      dsimp only
      have S2 := hid (S.out.reader hc hr)
      have HST := hid (oB_step false (l, false) k hlt)
      have HRP := hid (rep_snoc (dateP false) k (q7 (l, false)).2)
      clear hc hr S d0
      generalize (rep (dateP false) k (q7 (l, false)).2).2 = ps at *
      generalize (dateP false ps).1 = d at *
      go_wp2_with (refine wpList_store_partO rfl 27 _ _ rfl ob (7 + k * 2) #[.bool d.1, .int .i64 d.2] rfl rfl S2.out.box (by rw [objCells_size]; show 7 + k * 2 + 2 ≤ 37; omega) oSzD (oneD _ _) _ (segDate _ _ (oB_len false (l, false) k (by omega)) k hlt d) ?_; intro w4 hb4 hc4; have HB4 := hid hb4; have HC4 := hid hc4; clear hb4 hc4)
      have S5 := hid (S2.out.store HC4.out HB4.out (S2.out.m.data rfl rfl rfl rfl (by rw [HST.out]; exact oB_len _ _ _ (by omega))) S2.out.foot)
      have S6 : Hid (RdO 35 72 121 (oB false (l, false) (k + 1)) s w b pv p ob F (rep (dateP false) (k + 1) (q7 (l, false)).2).2 w4) := by
        have h := S5.out
        rw [HST.out] at h
        rw [HRP.out]
        exact h
      clear S5 S2 HB4 HC4 HST HRP
      go_roundw
      case rel =>
        first
          | exact ⟨k + 1, by omega, by go_num, S6.out⟩
          | ((repeat apply Exists.intro); exact ⟨⟨k + 1, by omega, by go_num, S6.out⟩, rfl⟩)
      case measure => simp [intOf]; omega
    · obtain rfl : k = 10 := by omega
      have S' : Hid (RdO 35 72 121 ((oA (l, false)).wDates (q8 false (l, false)).1) s w b pv p ob F (q8 false (l, false)).2 wr) := by
        have h := S.out
        rw [oB_ten] at h
        exact h
      clear S
      have S := S'
      clear S'
      go_upto_region 8 with (fail)
      have HV := hid S.out.var
      have NV := hid (nin1 (show pv ≠ p by have := S.out.ord; omega))
      have HFL := hid S.out.flt
      refine wp_region_eachX (m := 6) (Chg [p]) [.eq (.pointer (some ⟨pv, 0, none⟩)), .eq (.pointer (some ⟨p, 0, none⟩)), .eq (.int .i64 (q9 false (l, false)).1), .eq (.agg #[.pointer (some ⟨p, 0, none⟩)]), .eq (.string (q10 false (l, false)).1), .eq (.pointer (some ⟨ob, 27, none⟩))] (RdX 121 p F (q8 false (l, false)).2 [(2, (q9 false (l, false)).2), (4, (q10 false (l, false)).2)]) (by kernel_rfl) (by kernel_rfl) (by kernel_rfl) (by kernel_rfl) (Chg.same1) (by exact (Chg.refl _ _).drew) (by exact RdX.start S.out.rd _) ?_ ?_
      · all_goals
          refine each_5 ?_ ?_ ?_ ?_ ?_ (each_c ?_ (each_n))
          · intro w1 hg listed up hx Ar seen
            have s4 := seen.sl 4 (.pointer (some ⟨pv, 0, none⟩))
            refine doesY_plain rfl fun K Q' hK => ?_
            go_simp; exact hK _ _ (Chg.refl _ _) (hx.same (by kernel_rfl)) rfl
          · intro w1 hg listed up hx Ar seen
            have e0 := seen.de 0 42
            refine doesY_plain rfl fun K Q' hK => ?_
            have hc := cell_of_block (j := 0) ((hg.block _ (block_lt HV.out) NV.out).trans HV.out) rfl
            go_simp; exact hK _ _ (Chg.refl _ _) (hx.same (by kernel_rfl)) rfl
          · intro w1 hg listed up hx Ar seen
            have e1 := seen.de 1 43
            refine doesY_plain rfl fun K Q' hK => ?_
            have hs := hx.at0 rfl up.self
            go_simp
            refine (soU8_any p (q8 false (l, false)).2 F _ hs).mono ?_
            rintro e u ⟨rfl, hc, hr⟩
            exact hK _ _ hc (hx.step 0 rfl up.self (.inl rfl) (by simp) up.lt' hr) rfl
          · intro w1 hg listed up hx Ar seen
            have s4 := seen.sl 4 (.pointer (some ⟨pv, 0, none⟩))
            refine doesY_plain rfl fun K Q' hK => ?_
            have hc := cell_of_block (j := 0) ((hg.block _ (block_lt HV.out) NV.out).trans HV.out) rfl
            go_simp; exact hK _ _ (Chg.refl _ _) (hx.same (by kernel_rfl)) rfl
          · intro w1 hg listed up hx Ar seen
            have e3 := seen.de 3 45
            refine doesY_plain rfl fun K Q' hK => ?_
            have hs := hx.at1 0 rfl rfl up.self (up.did 2 (by decide))
            go_simp
            refine (ptext_any p (q9 false (l, false)).2 F _ hs).mono ?_
            rintro e u ⟨rfl, hc, hr⟩
            exact hK _ _ hc (hx.step 1 rfl up.self (.inr ⟨_, rfl, up.did 2 (by decide)⟩) (by simp) up.lt' hr) rfl
          · intro w1 hg listed up hx Ar seen
            have s5 := seen.sl 5 (.pointer (some ⟨ob, 0, none⟩))
            refine doesY_plain rfl fun K Q' hK => ?_
            go_simp; exact hK _ _ (Chg.refl _ _) (hx.same (by kernel_rfl)) rfl
      intro w1 hg listed hl hx
      refine upon_w' (js := [0, 1, 2, 3, 4, 5]) (by rfl) ?_
      refine upon_e (some 42) (upon_e (some 43) (upon_e (some 44) (upon_e (some 45) (upon_e (some 46) (upon_e (some 47) (upon_n ?_))))))
      have S8 := hid (S.out.reader hg (hx.end1 hl (by kernel_rfl) rfl))
      clear hg hx hl HV NV HFL S
      go_simp
      have d27 := S8.out.cell (oc27 _ _)
      have d28 := S8.out.cell (oc28 _ _)
      have hfz := fun j => S8.out.fz j
      go_upto_region 9 with (fail)
      have S' := hid (S8.out.setMsg (q9 false (l, false)).1 (q10 false (l, false)).1)
      clear S8 d27 d28 hfz
      generalize (w1.setCell ⟨ob, 27, none⟩ (.int .i64 (q9 false (l, false)).1)).setCell ⟨ob, 28, none⟩ (.string (q10 false (l, false)).1) = w9 at *
      have S : Hid (RdO 35 72 121 (oC false (l, false)) s w b pv p ob F (q10 false (l, false)).2 w9) := S'
      clear S'
      have hpb : p < w9.heap.size := by have := S.out.ord; have := S.out.lt; omega
      have HV := hid S.out.var
      have NV := hid (nin1 (show pv ≠ p by have := S.out.ord; omega))
      have HFL := hid S.out.flt
      refine wp_region_eachX (m := 16) (Chg [p]) [.eq (.pointer (some ⟨pv, 0, none⟩)), .eq (.pointer (some ⟨p, 0, none⟩)), .eq (.agg #[.pointer (some ⟨p, 0, none⟩)]), .eq (.func (.func 37) #[.agg #[.pointer (some ⟨p, 0, none⟩)]] #[]), stRow p w9.heap.size hpb 9 1 255 ((q11 false (l, false)).1.map Value.string), .eq (.pointer (some ⟨pv, 0, none⟩)), .eq (.pointer (some ⟨p, 0, none⟩)), .eq (.agg #[.pointer (some ⟨p, 0, none⟩)]), .eq (.func (.func 44) #[.agg #[.pointer (some ⟨p, 0, none⟩)]] #[]), stRow p w9.heap.size hpb 56 2 255 (linkCells (q12 false (l, false)).1), .eq (.pointer (some ⟨pv, 0, none⟩)), .eq (.pointer (some ⟨p, 0, none⟩)), .eq (.agg #[.pointer (some ⟨p, 0, none⟩)]), .eq (.func (.func 46) #[.agg #[.pointer (some ⟨p, 0, none⟩)]] #[]), stRow p w9.heap.size hpb 58 2 255 (custCells (q13 false (l, false)).1), .eq (.pointer (some ⟨ob, 29, none⟩))] (RdX 121 p F (q10 false (l, false)).2 [(4, (q11 false (l, false)).2), (9, (q12 false (l, false)).2), (14, (q13 false (l, false)).2)]) (by kernel_rfl) (by kernel_rfl) (by kernel_rfl) (by kernel_rfl) (Chg.same1) (by exact (Chg.refl _ _).drew) (by exact RdX.start S.out.rd _) ?_ ?_
      · all_goals
          refine each_5 ?_ ?_ ?_ ?_ ?_ (each_5 ?_ ?_ ?_ ?_ ?_ (each_5 ?_ ?_ ?_ ?_ ?_ (each_c ?_ (each_n))))
          · intro w1 hg listed up hx Ar seen
            have s4 := seen.sl 4 (.pointer (some ⟨pv, 0, none⟩))
            refine doesY_plain rfl fun K Q' hK => ?_
            go_simp; exact hK _ _ (Chg.refl _ _) (hx.same (by kernel_rfl)) rfl
          · intro w1 hg listed up hx Ar seen
            have e0 := seen.de 0 49
            refine doesY_plain rfl fun K Q' hK => ?_
            have hc := cell_of_block (j := 0) ((hg.block _ (block_lt HV.out) NV.out).trans HV.out) rfl
            go_simp; exact hK _ _ (Chg.refl _ _) (hx.same (by kernel_rfl)) rfl
          · intro w1 hg listed up hx Ar seen
            have s4 := seen.sl 4 (.pointer (some ⟨pv, 0, none⟩))
            refine doesY_plain rfl fun K Q' hK => ?_
            have hc := cell_of_block (j := 0) ((hg.block _ (block_lt HV.out) NV.out).trans HV.out) rfl
            go_simp; exact hK _ _ (Chg.refl _ _) (hx.same (by kernel_rfl)) rfl
          · intro w1 hg listed up hx Ar seen
            have e2 := seen.de 2 51
            refine doesY_plain rfl fun K Q' hK => ?_
            have hm := hmf
            go_simp; exact hK _ _ (Chg.refl _ _) (hx.same (by kernel_rfl)) rfl
          · intro w1 hg listed up hx Ar seen
            have e1 := seen.de 1 50
            have e3 := seen.de 3 52
            refine doesY_plain rfl fun K Q' hK => ?_
            have hs := hx.at0 rfl up.self
            go_simp
            refine (listS_any p (q10 false (l, false)).2 F _ hs (fun k hk => Nat.lt_of_lt_of_le (HFL.out k hk) hg.size)).mono ?_
            rintro e u ⟨a2, n2, c2, rfl, hn2, ho, hc, hr⟩
            exact hK _ _ hc (hx.step 0 rfl up.self (.inl rfl) (by simp) up.lt' hr) ⟨a2, n2, c2, rfl, hn2, own_low ho hg.size⟩
          · intro w1 hg listed up hx Ar seen
            have s4 := seen.sl 4 (.pointer (some ⟨pv, 0, none⟩))
            refine doesY_plain rfl fun K Q' hK => ?_
            go_simp; exact hK _ _ (Chg.refl _ _) (hx.same (by kernel_rfl)) rfl
          · intro w1 hg listed up hx Ar seen
            have e5 := seen.de 5 54
            refine doesY_plain rfl fun K Q' hK => ?_
            have hc := cell_of_block (j := 0) ((hg.block _ (block_lt HV.out) NV.out).trans HV.out) rfl
            go_simp; exact hK _ _ (Chg.refl _ _) (hx.same (by kernel_rfl)) rfl
          · intro w1 hg listed up hx Ar seen
            have s4 := seen.sl 4 (.pointer (some ⟨pv, 0, none⟩))
            refine doesY_plain rfl fun K Q' hK => ?_
            have hc := cell_of_block (j := 0) ((hg.block _ (block_lt HV.out) NV.out).trans HV.out) rfl
            go_simp; exact hK _ _ (Chg.refl _ _) (hx.same (by kernel_rfl)) rfl
          · intro w1 hg listed up hx Ar seen
            have e7 := seen.de 7 56
            refine doesY_plain rfl fun K Q' hK => ?_
            have hm := hmf
            go_simp; exact hK _ _ (Chg.refl _ _) (hx.same (by kernel_rfl)) rfl
          · intro w1 hg listed up hx Ar seen
            have e6 := seen.de 6 55
            have e8 := seen.de 8 57
            refine doesY_plain rfl fun K Q' hK => ?_
            have hs := hx.at1 0 rfl rfl up.self (up.did 4 (by decide))
            go_simp
            refine (listL_any p (q11 false (l, false)).2 F _ hs (fun k hk => Nat.lt_of_lt_of_le (HFL.out k hk) hg.size)).mono ?_
            rintro e u ⟨a2, n2, c2, rfl, hn2, ho, hc, hr⟩
            exact hK _ _ hc (hx.step 1 rfl up.self (.inr ⟨_, rfl, up.did 4 (by decide)⟩) (by simp) up.lt' hr) ⟨a2, n2, c2, rfl, hn2, own_low ho hg.size⟩
          · intro w1 hg listed up hx Ar seen
            have s4 := seen.sl 4 (.pointer (some ⟨pv, 0, none⟩))
            refine doesY_plain rfl fun K Q' hK => ?_
            go_simp; exact hK _ _ (Chg.refl _ _) (hx.same (by kernel_rfl)) rfl
          · intro w1 hg listed up hx Ar seen
            have e10 := seen.de 10 59
            refine doesY_plain rfl fun K Q' hK => ?_
            have hc := cell_of_block (j := 0) ((hg.block _ (block_lt HV.out) NV.out).trans HV.out) rfl
            go_simp; exact hK _ _ (Chg.refl _ _) (hx.same (by kernel_rfl)) rfl
          · intro w1 hg listed up hx Ar seen
            have s4 := seen.sl 4 (.pointer (some ⟨pv, 0, none⟩))
            refine doesY_plain rfl fun K Q' hK => ?_
            have hc := cell_of_block (j := 0) ((hg.block _ (block_lt HV.out) NV.out).trans HV.out) rfl
            go_simp; exact hK _ _ (Chg.refl _ _) (hx.same (by kernel_rfl)) rfl
          · intro w1 hg listed up hx Ar seen
            have e12 := seen.de 12 61
            refine doesY_plain rfl fun K Q' hK => ?_
            have hm := hmf
            go_simp; exact hK _ _ (Chg.refl _ _) (hx.same (by kernel_rfl)) rfl
          · intro w1 hg listed up hx Ar seen
            have e11 := seen.de 11 60
            have e13 := seen.de 13 62
            refine doesY_plain rfl fun K Q' hK => ?_
            have hs := hx.at1 1 rfl rfl up.self (up.did 9 (by decide))
            go_simp
            refine (listC_any p (q12 false (l, false)).2 F _ hs (fun k hk => Nat.lt_of_lt_of_le (HFL.out k hk) hg.size)).mono ?_
            rintro e u ⟨a2, n2, c2, rfl, hn2, ho, hc, hr⟩
            exact hK _ _ hc (hx.step 2 rfl up.self (.inr ⟨_, rfl, up.did 9 (by decide)⟩) (by simp) up.lt' hr) ⟨a2, n2, c2, rfl, hn2, own_low ho hg.size⟩
          · intro w1 hg listed up hx Ar seen
            have s5 := seen.sl 5 (.pointer (some ⟨ob, 0, none⟩))
            refine doesY_plain rfl fun K Q' hK => ?_
            go_simp; exact hK _ _ (Chg.refl _ _) (hx.same (by kernel_rfl)) rfl
      intro w1 hg listed hl hx
      refine upon_w' (js := [0, 1, 2, 3, 4, 5, 6, 7, 8, 9, 10, 11, 12, 13, 14, 15]) (by rfl) ?_
      refine upon_e (some 49) (upon_e (some 50) (upon_e (some 51) (upon_e (some 52) (upon_v (some 53) fun v4 h4 => upon_e (some 54) (upon_e (some 55) (upon_e (some 56) (upon_e (some 57) (upon_v (some 58) fun v9 h9 => upon_e (some 59) (upon_e (some 60) (upon_e (some 61) (upon_e (some 62) (upon_v (some 63) fun v14 h14 => upon_e (some 64) (upon_n ?_)))))))))))))
      obtain ⟨a4, n4, c4, rfl, hn4, ho4⟩ := h4
      obtain ⟨a9, n9, c9, rfl, hn9, ho9⟩ := h9
      obtain ⟨a14, n14, c14, rfl, hn14, ho14⟩ := h14
      have S8 := hid (S.out.reader hg (hx.end1 hl (by kernel_rfl) rfl))
      have hx4 := SlR.of_own (s := ⟨a4, n4, c4⟩) ho4 (Nat.le_trans hn4 (by decide))
      have hx9 := SlR.of_own (s := ⟨a9, n9, c9⟩) ho9 (Nat.le_trans hn9 (by decide))
      have hx14 := SlR.of_own (s := ⟨a14, n14, c14⟩) ho14 (Nat.le_trans hn14 (by decide))
      have hft : ∀ k, w9.heap.size ≤ k → pv < k ∧ k ≠ ob := fun k hk => by have ho := S.out.ord; have hl := S.out.lt; omega
      have f4 := fun k hk => hft k (blk_own (s := ⟨a4, n4, c4⟩) ho4 k hk)
      have f9 := fun k hk => hft k (blk_own (s := ⟨a9, n9, c9⟩) ho9 k hk)
      have f14 := fun k hk => hft k (blk_own (s := ⟨a14, n14, c14⟩) ho14 k hk)
      have S9 := hid (S8.out.setLists hx4 hx9 hx14 f4 f9 f14)
      clear hg hx hl HV NV HFL S ho4 ho9 ho14 hn4 hn9 hn14 hft hpb hx4 hx9 hx14 f4 f9 f14
      go_simp
      have d29 := S8.out.cell (oc29 _ _)
      have d30 := S8.out.cell (oc30 _ _)
      have d31 := S8.out.cell (oc31 _ _)
      have hfz := fun j => S8.out.fz j
      go_upto_region 10 with (fail)
      have S' := S9
      clear S8 S9 d29 d30 d31 hfz
      generalize ((w1.setCell ⟨ob, 29, none⟩ (.slice a4 n4 c4)).setCell ⟨ob, 30, none⟩ (.slice a9 n9 c9)).setCell ⟨ob, 31, none⟩ (.slice a14 n14 c14) = w10 at *
      generalize ({ s with names := ⟨a4, n4, c4⟩, links := ⟨a9, n9, c9⟩, custom := ⟨a14, n14, c14⟩ } : ObjV) = sx at *
      have S : Hid (RdO 35 72 121 (oD false (l, false)) sx w b pv p ob F (q13 false (l, false)).2 w10) := S'
      clear S'
      have NV := hid (show pv ∉ [p, ob] by have := S.out.ord; simp; omega)
      have HV := hid S.out.var
      have NOB := hid (show ob ≠ p by have := S.out.ord; omega)
      have HFL := hid S.out.flt
      have HFO := hid (show ∀ k ∈ F, k ≠ ob from fun k hk => by have := (S.out.low k hk).2; have := S.out.ord; omega)
      refine wp_region_eachX (m := 8) (Chg [p, ob]) [.eq (.agg #[.pointer (some ⟨p, 0, none⟩)]), .eq (.agg #[.bool (limP false (q13 false (l, false)).2).1.has, .int .i64 (limP false (q13 false (l, false)).2).1.total, .int .i64 (limP false (q13 false (l, false)).2).1.count, .int .i64 (limP false (q13 false (l, false)).2).1.unit]), .eq (.pointer (some ⟨pv, 0, none⟩)), .eq (.pointer (some ⟨p, 0, none⟩)), .eq (.int .i64 (q15 false (l, false)).1), .eq (.bool ((q15 false (l, false)).1 == 1)), .eq (.pointer (some ⟨ob, 32, none⟩)), .eq (undef)] (RdX10 121 35 p ob F (q13 false (l, false)).2 [(1, (q14 false (l, false)).2), (4, (q15 false (l, false)).2)] (objCells (oD false (l, false)) sx) (objCells ((oD false (l, false)).wLim (limP false (q13 false (l, false)).2).1) sx)) (by kernel_rfl) (by kernel_rfl) (by kernel_rfl) (by kernel_rfl) (Chg.same2) (by exact (Chg.refl _ _).drew) (by exact RdX10.start S.out.rd S.out.box _) ?_ ?_
      · all_goals
          refine each_5 ?_ ?_ ?_ ?_ ?_ (each_c ?_ (each_c ?_ (each_c ?_ (each_n))))
          · intro w1 hg listed up hx Ar seen
            have s4 := seen.sl 4 (.pointer (some ⟨pv, 0, none⟩))
            refine doesY_plain rfl fun K Q' hK => ?_
            have hc := cell_of_block (j := 0) ((hg.block _ (block_lt HV.out) NV.out).trans HV.out) rfl
            go_simp; exact hK _ _ (Chg.refl _ _) (hx.same (by kernel_rfl)) rfl
          · intro w1 hg listed up hx Ar seen
            have e0 := seen.de 0 67
            refine doesY_plain rfl fun K Q' hK => ?_
            have hs := hx.1.at0 rfl up.self
            go_simp
            refine (plimits_any p (q13 false (l, false)).2 F _ hs (fun k hk => Nat.lt_of_lt_of_le (HFL.out k hk) hg.size)).mono ?_
            rintro e u ⟨rfl, hc, hr⟩
            exact hK _ _ (hc.mono (by simp)) (hx.step 0 rfl up.self (.inl rfl) (by simp) up.lt' (by decide) hc NOB.out hr) rfl
          · intro w1 hg listed up hx Ar seen
            have s4 := seen.sl 4 (.pointer (some ⟨pv, 0, none⟩))
            refine doesY_plain rfl fun K Q' hK => ?_
            go_simp; exact hK _ _ (Chg.refl _ _) (hx.same (by kernel_rfl)) rfl
          · intro w1 hg listed up hx Ar seen
            have e2 := seen.de 2 69
            refine doesY_plain rfl fun K Q' hK => ?_
            have hc := cell_of_block (j := 0) ((hg.block _ (block_lt HV.out) NV.out).trans HV.out) rfl
            go_simp; exact hK _ _ (Chg.refl _ _) (hx.same (by kernel_rfl)) rfl
          · intro w1 hg listed up hx Ar seen
            have e3 := seen.de 3 70
            refine doesY_plain rfl fun K Q' hK => ?_
            have hs := hx.1.at1 0 rfl rfl up.self (up.did 1 (by decide))
            go_simp
            refine (soU8_any p (q14 false (l, false)).2 F _ hs).mono ?_
            rintro e u ⟨rfl, hc, hr⟩
            exact hK _ _ (hc.mono (by simp)) (hx.step 1 rfl up.self (.inr ⟨_, rfl, up.did 1 (by decide)⟩) (by simp) up.lt' (by decide) hc NOB.out hr) rfl
          · intro w1 hg listed up hx Ar seen
            have e4 := seen.de 4 71
            refine doesY_plain rfl fun K Q' hK => ?_
            go_simp; exact hK _ _ (Chg.refl _ _) (hx.same (by kernel_rfl)) rfl
          · intro w1 hg listed up hx Ar seen
            have s5 := seen.sl 5 (.pointer (some ⟨ob, 0, none⟩))
            refine doesY_plain rfl fun K Q' hK => ?_
            go_simp; exact hK _ _ (Chg.refl _ _) (hx.same (by kernel_rfl)) rfl
          · intro w1 hg listed up hx Ar seen
            have e1 := seen.de 1 68
            have e6 := seen.de 6 73
            refine doesY_plain rfl fun K Q' hK => ?_
            refine wp_store_partO 33 _ _ rfl ob 32 #[.bool (limP false (q13 false (l, false)).2).1.has, .int .i64 (limP false (q13 false (l, false)).2).1.total, .int .i64 (limP false (q13 false (l, false)).2).1.count, .int .i64 (limP false (q13 false (l, false)).2).1.unit] (by simp [Act.eval, e6]) (by simp [Act.eval, e1]) (hx.old up.self) (by rw [objCells_size]; show 32 + 4 ≤ 37; decide) oSizeL (oneM _ _ _ _) _ (segLimW _ _ _) ?_
            intro w2 hb2 hc2
            exact hK undef _ (hc2.mono (by simp)) (hx.put up.lt' (by kernel_rfl) hc2 HFO.out hb2) rfl
      intro w1 hg listed hl hx
      refine upon_w' (js := [0, 1, 2, 3, 4, 5, 6, 7]) (by rfl) ?_
      refine upon_e (some 67) (upon_e (some 68) (upon_e (some 69) (upon_e (some 70) (upon_e (some 71) (upon_e (some 72) (upon_e (some 73) (upon_e none (upon_n ?_))))))))
      have S8 : Hid (RdO 35 72 121 ((oD false (l, false)).wLim (limP false (q13 false (l, false)).2).1) sx w b pv p ob F (q15 false (l, false)).2 w1) :=
        S.out.both hg (hx.1.end1 hl (by kernel_rfl) rfl) (by have h := hx.2; rw [hl 7 (by decide), if_pos rfl] at h; exact h) (S.out.m.wLim _)
      clear hg hx hl HV NV HFL S NOB HFO
      go_simp
      have d36 := S8.out.cell (oc36 _ _)
      have hfz := fun j => S8.out.fz j
      go_upto_region 11 with (fail)
      have S' := hid (S8.out.setArch ((q15 false (l, false)).1 == 1))
      clear S8 d36 hfz
      generalize w1.setCell ⟨ob, 36, none⟩ (.bool ((q15 false (l, false)).1 == 1)) = w11 at *
      have S : Hid (RdO 35 72 121 (oF false (l, false)) sx w b pv p ob F (q15 false (l, false)).2 w11) := S'
      clear S'
      obtain ⟨OF, hOF⟩ : ∃ O, O = oF false (l, false) := ⟨_, rfl⟩
      obtain ⟨PSF, hPS⟩ : ∃ x, x = (q15 false (l, false)).2 := ⟨_, rfl⟩
      rw [← hOF, ← hPS] at S
      have HOF := hid hOF; have HPS := hid hPS
      clear hOF hPS
      have HT := hid (HT0.out.below (by rw [HBE.out]; exact S.out.bel))
      go_wp2_with (refine wpList_load_row rfl 35 _ rfl ob rfl _ _ _ _ S.out.box Tryd.underlying35 rfl (by rw [objCells_size]; exact oSizeO) ?_)
      refine (lay10_any _ sx w11 S.out.m HT.out).mono ?_
      rintro e w12 ⟨hb12, hcase⟩
      have S2 := hid (S.out.below hb12)
      have HRB2 := hid (HRB.out.below (by rw [HBE.out]; exact S2.out.bel))
      have HLAY := hid hcase
      clear hb12 hcase S HT
      have d0 := S2.out.ptr
      rcases HLAY.out with ⟨hr, rfl⟩ | ⟨hr, a5, n5, c5, rfl, ho5⟩
      · have HR := hid hr
        clear hr HLAY
        go_wp2_with fail
        refine (soLack_any p _ F _ S2.out.rd).mono ?_
        rintro e u ⟨rfl, rfl⟩
        dsimp only
        clear d0
        cases hlk : PSF.2 with
        | true =>
          clear hlk
          have HNO := hid (read_not (ref := false) (by rw [← HOF.out]; exact HR.out))
          go_wp2_with (first | (refine wpList_build_obj rfl 35 _ rfl #[] (by simp [Act.eval]) _ (buildZO _) ?_) | (refine wpList_store_obj rfl 35 _ _ rfl b rfl _ rfl _ _ S2.out.res rfl (by rw [objCells_size]; exact oSizeO) (oc_one _ _) ?_; intro w6 hb6 hc6 hs6; have HB6 := hid hb6; have HC6 := hid hc6; clear hb6 hc6 hs6))
          refine bodyPost_ret (results_obj_tmp0 rfl _ _ b _ _ _ _ rfl HB6.out Tryd.underlying35 rfl (by rw [objCells_size]; exact oSizeO) _ rfl) rfl ?_
          exact ⟨by rw [HBE.out]; exact S2.out.bel.trans (HC6.out.below (fun k hk => by rw [List.mem_singleton.1 hk]; exact Nat.le_refl _) (Nat.le_of_lt (block_lt S2.out.res))), zObj, zObjV, ObjM.zero _, (fun k hk => by simp [zObjV, ObjV.foot, Sl.blk] at hk), .inr ⟨HNO.out, rfl, rfl, rfl⟩⟩
        | false =>
          clear hlk
          have HNO := hid (read_not (ref := false) (by rw [← HOF.out]; exact HR.out))
          go_wp2_with (first | (refine wpList_build_obj rfl 35 _ rfl #[] (by simp [Act.eval]) _ (buildZO _) ?_) | (refine wpList_store_obj rfl 35 _ _ rfl b rfl _ rfl _ _ S2.out.res rfl (by rw [objCells_size]; exact oSizeO) (oc_one _ _) ?_; intro w6 hb6 hc6 hs6; have HB6 := hid hb6; have HC6 := hid hc6; clear hb6 hc6 hs6))
          refine bodyPost_ret (results_obj_tmp0 rfl _ _ b _ _ _ _ rfl HB6.out Tryd.underlying35 rfl (by rw [objCells_size]; exact oSizeO) _ rfl) rfl ?_
          exact ⟨by rw [HBE.out]; exact S2.out.bel.trans (HC6.out.below (fun k hk => by rw [List.mem_singleton.1 hk]; exact Nat.le_refl _) (Nat.le_of_lt (block_lt S2.out.res))), zObj, zObjV, ObjM.zero _, (fun k hk => by simp [zObjV, ObjV.foot, Sl.blk] at hk), .inr ⟨HNO.out, rfl, rfl, rfl⟩⟩
      · have HR := hid hr
        have HO5 := hid (RdB.of_own ho5)
        have hn5 : n5 ≤ 140737488355328 := by
          have h1 := ho5.1
          have hz := layO_small hr (by rw [HOF.out]; exact oF_len _ _)
          simp at h1
          omega
        clear hr HLAY ho5
        go_wp2_with fail
        refine (soLack_any p _ F _ S2.out.rd).mono ?_
        rintro e u ⟨rfl, rfl⟩
        dsimp only
        clear d0
        cases hlk : PSF.2 with
        | true =>
          have HK := hid hlk
          clear hlk
          have HNO := hid (read_lack (ref := false) (by rw [← HPS.out]; exact HK.out))
          go_wp2_with (first | (refine wpList_build_obj rfl 35 _ rfl #[] (by simp [Act.eval]) _ (buildZO _) ?_) | (refine wpList_store_obj rfl 35 _ _ rfl b rfl _ rfl _ _ S2.out.res rfl (by rw [objCells_size]; exact oSizeO) (oc_one _ _) ?_; intro w6 hb6 hc6 hs6; have HB6 := hid hb6; have HC6 := hid hc6; clear hb6 hc6 hs6))
          refine bodyPost_ret (results_obj_tmp0 rfl _ _ b _ _ _ _ rfl HB6.out Tryd.underlying35 rfl (by rw [objCells_size]; exact oSizeO) _ rfl) rfl ?_
          exact ⟨by rw [HBE.out]; exact S2.out.bel.trans (HC6.out.below (fun k hk => by rw [List.mem_singleton.1 hk]; exact Nat.le_refl _) (Nat.le_of_lt (block_lt S2.out.res))), zObj, zObjV, ObjM.zero _, (fun k hk => by simp [zObjV, ObjV.foot, Sl.blk] at hk), .inr ⟨HNO.out, rfl, rfl, rfl⟩⟩
        | false =>
          clear hlk
          go_wp2_with fail
          refine (equalB_any a5 ab n5 c5 n c _ l _ HO5.out HRB2.out hn5).mono ?_
          rintro e w13 ⟨rfl, hb13⟩
          dsimp only
          have S3 := hid (S2.out.below hb13)
          clear hb13 S2
          have S2 := S3
          clear S3
          cases heq : decide (layO OF = l) with
          | false =>
            have HE : Hid (layO OF ≠ l) := by show _ ≠ _; simpa using heq
            clear heq
            have HNO := hid (read_ne (ref := false) (by rw [← HOF.out]; exact HE.out))
            go_wp2_with (first | (refine wpList_build_obj rfl 35 _ rfl #[] (by simp [Act.eval]) _ (buildZO _) ?_) | (refine wpList_store_obj rfl 35 _ _ rfl b rfl _ rfl _ _ S2.out.res rfl (by rw [objCells_size]; exact oSizeO) (oc_one _ _) ?_; intro w6 hb6 hc6 hs6; have HB6 := hid hb6; have HC6 := hid hc6; clear hb6 hc6 hs6))
            refine bodyPost_ret (results_obj_tmp0 rfl _ _ b _ _ _ _ rfl HB6.out Tryd.underlying35 rfl (by rw [objCells_size]; exact oSizeO) _ rfl) rfl ?_
            exact ⟨by rw [HBE.out]; exact S2.out.bel.trans (HC6.out.below (fun k hk => by rw [List.mem_singleton.1 hk]; exact Nat.le_refl _) (Nat.le_of_lt (block_lt S2.out.res))), zObj, zObjV, ObjM.zero _, (fun k hk => by simp [zObjV, ObjV.foot, Sl.blk] at hk), .inr ⟨HNO.out, rfl, rfl, rfl⟩⟩
          | true =>
            have HE : Hid (layO OF = l) := by show _ = _; simpa using heq
            clear heq
            go_wp2_with (first | (refine wpList_load_row rfl 35 _ rfl ob rfl _ _ _ _ S2.out.box Tryd.underlying35 rfl (by rw [objCells_size]; exact oSizeO) ?_) | (refine wpList_store_obj rfl 35 _ _ rfl b rfl _ rfl _ _ S2.out.res rfl (by rw [objCells_size]; exact oSizeO) (oc_one _ _) ?_; intro w6 hb6 hc6 hs6; have HB6 := hid hb6; have HC6 := hid hc6; clear hb6 hc6 hs6))
            refine bodyPost_ret (results_obj_tmp0 rfl _ _ b _ _ _ _ rfl HB6.out Tryd.underlying35 rfl (by rw [objCells_size]; exact oSizeO) _ rfl) rfl ?_
            exact ⟨by rw [HBE.out]; exact S2.out.bel.trans (HC6.out.below (fun k hk => by rw [List.mem_singleton.1 hk]; exact Nat.le_refl _) (Nat.le_of_lt (block_lt S2.out.res))), OF, sx, S2.out.m.keep HC6.out (fun k hk hm => by have h1 := (S2.out.foot k hk).1; have h2 := S2.out.ord; have h3 := List.mem_singleton.1 hm; omega), (fun k hk => by have h1 := (S2.out.foot k hk).1; have h2 := S2.out.ord; rw [HBE.out]; omega), .inl ⟨by rw [HOF.out]; exact read_ok (by rw [← HOF.out]; exact HR.out) (by rw [← HOF.out]; exact HE.out), rfl⟩⟩
end Go.Proofs.YtdlkobmlnpijgaaDoor
