/- LifeTime: the walk. -/
import Derived.Test.YtkmagdhbbhemhaaLaw11a
import Derived.Test.YtkmagdhbbhemhaaLaw11Ints
import Derived.Test.YtkmagdhbbhemhaaLifeTP
namespace Go.Proofs.Ytkmagdhbbhemhaa
open Go.RowKit
set_option linter.unusedVariables false
set_option linter.unusedSimpArgs false
set_option maxRecDepth 100000
set_option maxHeartbeats 4000000

/-- Two objects' blocks, one behind the other. -/
structure LT (w W : World) (b p : Nat) (O P : ObjD) (s s' : ObjV) : Prop where
  o1 : W.heap[p]? = some (.cells (objCells O s) 39 (0, 0))
  o2 : W.heap[p + 1]? = some (.cells (objCells P s') 39 (0, 0))
  m1 : ObjM W O s
  m2 : ObjM W P s'
  f1 : ∀ k ∈ s.foot, k < p
  bel : Below b w W
  lt : b ≤ p
section
variable {w W W' : World} {b p : Nat} {O P P' : ObjD} {s s' s'' : ObjV}
theorem LT.below (h : LT w W b p O P s s') (hb : Below W.heap.size W W') : LT w W' b p O P s s' :=
  ⟨(hb.block _ (block_lt h.o1)).trans h.o1, (hb.block _ (block_lt h.o2)).trans h.o2, h.m1.below hb, h.m2.below hb, h.f1, h.bel.trans (hb.mono (by have := block_lt h.o1; have := h.lt; omega)), h.lt⟩
theorem LT.store (h : LT w W b p O P s s') (h1 : W'.heap[p + 1]? = some (.cells (objCells P' s'') 39 (0, 0))) (hc : Chg [p + 1] W W') (hm : ObjM W P' s'') (hf : ∀ k ∈ s''.foot, p + 2 ≤ k) : LT w W' b p O P' s s'' :=
  ⟨(hc.block _ (block_lt h.o1) (by simp)).trans h.o1, h1, h.m1.keep hc (fun k hk hm => by have := h.f1 k hk; have := List.mem_singleton.1 hm; omega), hm.keep hc (fun k hk hm => by have := hf k hk; have := List.mem_singleton.1 hm; omega), h.f1,
    h.bel.trans (hc.below (fun k hk => by rw [List.mem_singleton.1 hk]; have := h.lt; omega) (by have := block_lt h.o1; have := h.lt; omega)), h.lt⟩
end
theorem due_stand (st : Int) (d1 d4 : Bool × Int) (t : Int) : dueV (lastSt st d1 d4 t) d1 d4 t = [] := by
  obtain ⟨a1, n1⟩ := d1
  obtain ⟨a4, n4⟩ := d4
  unfold lastSt dueV
  by_cases h1 : st = 1
  · subst h1
    by_cases c1 : a1 = true ∧ n1 ≤ t
    · by_cases c4 : a4 = true ∧ n4 ≤ t
      · simp [c1, c4]
      · simp [c1, c4]
    · simp [c1]
  · by_cases h2 : st = 2
    · subst h2
      by_cases c4 : a4 = true ∧ n4 ≤ t
      · simp [c4]
      · simp [c4]
    · simp [h1, h2]
theorem moved_nil (P : ObjD) (t : Int) (h : dueOf P t = []) : movedOf P t = P := by unfold movedOf; rw [h]; rfl
theorem moved_stays (O : ObjD) (t : Int) : movedOf (movedOf O t) t = movedOf O t := by
  refine moved_nil _ _ ?_
  unfold dueOf
  rw [moved_dat _ _ 1 (by decide), moved_dat _ _ 4 (by decide), moved_st, due_stand]
theorem lifeTime_walk (x : RawD) (hx : x.ok) (l : List RawD) (aL : Option Addr) (nL cL : Nat) (ls : List Int) (aS : Option Addr) (nS cS : Nat) (w : World) (hal : ArgSl 4 RawR w (.slice aL nL cL) l) (has : ArgSl 1 IntR w (.slice aS nS cS) ls) :
    Calls Try.prog 5 #[.agg x.cells, .slice aL nL cL, .slice aS nS cS] w fun e w' => e = .returned (.bool true) ∧ Below w.heap.size w w' := by
  have HA := hid (raws_below hal ((Below.refl _ _).alloc (Nat.le_refl _) (.cells x.cells 27)))
  have OBJ := hid (fun w' h' => object_any x hx l aL nL cL w' h')
  have HS := hid has
  clear hal has
  generalize hbe : w.heap.size = b
  have HBE := hid hbe; clear hbe
  go_enter Try.func5, Try.ntmps5
  go_upto_region 1 with (fail)
  have H1 := hid (block_new w (.cells x.cells 27))
  have HB1 := hid ((Below.refl w.heap.size w).alloc (Nat.le_refl _) (.cells x.cells 27))
  have HS1 : Hid ((w.alloc (.cells x.cells 27)).heap.size = w.heap.size + 1) := by show _ = _; simp
  rw [HBE.out] at H1 HB1 HS1 ⊢
  generalize w.alloc (.cells x.cells 27) = W at *
  have q0 := cell_of_block (j := 0) H1.out rfl
  have q1 := cell_of_block (j := 1) H1.out rfl
  have q2 := cell_of_block (j := 2) H1.out rfl
  have q3 := cell_of_block (j := 3) H1.out rfl
  go_wp2_with fail
  clear q0 q1 q2 q3
  refine (OBJ.out _ HA.out).mono ?_
  rintro e w2 ⟨s, rfl, hm2, hf2, hb2⟩
  have HM2 := hid hm2; have HB2 := hid hb2; have HF2 := hid hf2
  have hb2s := hb2.size
  rw [HS1.out] at hb2s
  clear hm2 hb2 hf2
  generalize objRaw x l = O at *
  have HBW : Hid (Below b w w2) := HB1.out.trans (HB2.out.mono (by rw [HS1.out]; omega))
  have HF : Hid (∀ k ∈ s.foot, k < w2.heap.size) := HM2.out.lt
  clear HB2 HB1 HS1 HF2 HA OBJ H1
  have HZP : Hid (b ≤ w2.heap.size) := by show _ ≤ _; have h1 := hb2s; omega
  clear hb2s
  go_upto_region 2 with (first | (refine wpList_alloc_obj rfl 39 rfl _ oZeroO ?_) | (refine wpList_store_obj rfl 39 _ _ rfl w2.heap.size rfl _ rfl _ _ (block_new w2 _) rfl (by rw [objCells_size]; exact oSizeO) (oc_one _ _) ?_; intro w3 hb3 hc3 hs3; have HB3 := hid hb3; have HC3 := hid hc3; have HS3 := hid hs3; clear hb3 hc3 hs3))
  go_simp
  have hsz3 : w3.heap.size = w2.heap.size + 1 := by rw [HS3.out]; simp
  have hbel : Below w2.heap.size w2 w3 := ((Below.refl _ w2).alloc (Nat.le_refl _) _).trans (HC3.out.below (fun k hk => by rw [List.mem_singleton.1 hk]; exact Nat.le_refl _) (by simp))
  have HM3 := hid (HM2.out.below hbel)
  have HBW3 := hid (HBW.out.trans (hbel.mono HZP.out))
  have HZ3 := hid hsz3
  clear hbel HM2 HC3 HS3 HBW hsz3
  generalize hp : w2.heap.size = p at *
  clear hp
  go_upto_region 3 with (first | (refine wpList_load_row rfl 39 _ rfl p rfl _ _ _ _ HB3.out Try.underlying39 rfl (by rw [objCells_size]; exact oSizeO) ?_) | (refine wpList_alloc_obj rfl 39 rfl _ oZeroO ?_) | (refine wpList_store_obj rfl 39 _ _ rfl w3.heap.size rfl _ rfl _ _ (block_new w3 _) rfl (by rw [objCells_size]; exact oSizeO) (oc_one _ _) ?_; intro w4 hb4 hc4 hs4; have HB4 := hid hb4; have HC4 := hid hc4; have HS4 := hid hs4; clear hb4 hc4 hs4))
  go_simp
  have hbel : Below w3.heap.size w3 w4 := ((Below.refl _ w3).alloc (Nat.le_refl _) _).trans (HC4.out.below (fun k hk => by rw [List.mem_singleton.1 hk]; exact Nat.le_refl _) (by simp))
  have HL : Hid (LT w w4 b p O O s s) :=
    ⟨(hbel.block _ (block_lt HB3.out)).trans HB3.out, by rw [← HZ3.out]; exact HB4.out, HM3.out.below hbel, HM3.out.below hbel, HF.out, HBW3.out.trans (hbel.mono (by rw [HZ3.out]; have := HZP.out; omega)), HZP.out⟩
  rw [HZ3.out]
  clear hbel HB3 HM3 HBW3 HZ3 HB4 HC4 HS4 HF HZP
  have hlen := (Ints.len HS.out)
  have HLS := hid hlen
  have hnS : nS ≤ 140737488355328 := by omega
  clear hlen
  go_upto_block 0 with (fail)
  go_cut [9, 10] (fun u9 _ wx => ∃ (T : Int) (P : ObjD) (s' : ObjV), u9 = .int .i64 T ∧ LT w wx b p O P s s' ∧ (1 ≤ nS → P.st = (movedOf O T).st))
  case first =>
    go_wp2_with fail
    go_loopw [9, 10] (fun u v wr => ∃ (k : Nat) (T : Int) (P : ObjD) (s' : ObjV), k ≤ nS ∧ k ≤ 20 ∧ v = .int .i64 k ∧ u = .int .i64 T ∧ 0 ≤ T ∧ T ≤ 8 * k ∧ Moving O P T ∧ (1 ≤ k → P.st = (movedOf O T).st) ∧ LT w wr b p O P s s') (fun _ v _ => 20 - (intOf v).toNat)
    case atStart => exact ⟨0, 0, O, s, Nat.zero_le _, Nat.zero_le _, rfl, rfl, by omega, by omega, Moving.first _ _, fun h => by omega, HL.out⟩
    case round =>
      clear HL
      obtain ⟨k, T, P, s', hk, hk20, rfl, rfl, hT0, hT1, hmv, hst, hl⟩ := hrel
      have HL := hid hl; have HMV := hid hmv; have HST := hid hst
      clear hl hmv hst
      by_cases hlt : k < nS
      · by_cases hlt20 : k < 20
        · obtain ⟨bS, oS, z, haS, hz, hzb, hc0⟩ := Ints.get HS.out hlt
          have hbel : Below w.heap.size w wr := by rw [HBE.out]; exact HL.out.bel
          have hcz := cell_later hbel hc0
          have hd0 := pick_lo z 9 (by omega)
          have hd1 := pick_hi z 9 (by omega)
          subst haS
          clear hbel hc0 hz
          go_upto_region 8 with (go_at_call 6; refine (pick_any z 9 _ (by omega) (by omega)).mono ?_; rintro e u ⟨rfl, rfl⟩; generalize pick z 9 = d at *)
          clear hcz hzb
          obtain ⟨⟨z0, hh, tt⟩, hno⟩ : ∃ y, nextOf P = y := ⟨_, rfl⟩
          have NX := hid (fun w => lifeNext_any P s' z0 tt hh w hno)
          have HAH := hid (moved_ahead P (T + d))
          rw [hno] at HAH
          have HNO := hid hno
          clear hno
          go_wp2_with (refine wpList_load_row rfl 39 _ rfl (p + 1) rfl _ _ _ _ HL.out.o2 Try.underlying39 rfl (by rw [objCells_size]; exact oSizeO) ?_)
          refine (NX.out _).mono ?_
          rintro e w7 ⟨rfl, hb7⟩
          have HL7 := hid (HL.out.below hb7)
          clear hb7 HL NX
          have HL := HL7
          clear HL7
          go_upto_region 9 with (fail)
          cases hh with
          | false =>
            refine wp_region_each 15 [.eq (.bool false), .eq (.bool false), .eq undef, .eq undef, .eq undef, .eq (.bool false), .eq (.bool false), .eq undef, .eq undef, .eq undef, .eq undef, .eq undef, .eq undef, .eq undef, .eq (.bool false)] (by kernel_rfl) (by kernel_rfl) (by kernel_rfl) (by kernel_rfl) ?_ ?_
            · as_aux_lemma =>
                refine each_c (o' := _) ?_ (each_c (o' := _) ?_ (each_c (o' := _) ?_ (each_c (o' := _) ?_ (each_c (o' := _) ?_ (each_c (o' := _) ?_ (each_c (o' := _) ?_ (each_c (o' := _) ?_ (each_c (o' := _) ?_ (each_c (o' := _) ?_ (each_c (o' := _) ?_ (each_c (o' := _) ?_ (each_c (o' := _) ?_ (each_c (o' := _) ?_ (each_c (o' := _) ?_ (each_n)))))))))))))))
                -- 0: move t12
                · intro w1 hg Ar seen
                  have s12 := seen.slot 12 (v := .bool false) (by kernel_rfl) rfl
                  refine does_plain rfl fun K Q' hK => ?_
                  go_simp; exact hK _ _ (Grow.refl _) rfl
                -- 1: move t40
                · intro w1 hg Ar seen
                  obtain ⟨v0, e0, h0⟩ := seen.dep 0 (d := 40) (by kernel_rfl) (by kernel_rfl) rfl
                  rcases h0 with rfl
                  refine does_plain rfl fun K Q' hK => ?_
                  go_simp; exact hK _ _ (Grow.refl _) rfl
                -- 2: move t11
                · intro w1 hg Ar seen
                  obtain ⟨v1, e1, h1⟩ := seen.dep 1 (d := 41) (by kernel_rfl) (by kernel_rfl) rfl
                  rcases h1 with rfl
                  exact does_off rfl (by kernel_rfl) e1 ne_ft (Grow.refl _) rfl
                -- 3: move t9
                · intro w1 hg Ar seen
                  obtain ⟨v1, e1, h1⟩ := seen.dep 1 (d := 41) (by kernel_rfl) (by kernel_rfl) rfl
                  rcases h1 with rfl
                  exact does_off rfl (by kernel_rfl) e1 ne_ft (Grow.refl _) rfl
                -- 4: binOp BinOp.gtr 2 t42 t43 2
                · intro w1 hg Ar seen
                  obtain ⟨v1, e1, h1⟩ := seen.dep 1 (d := 41) (by kernel_rfl) (by kernel_rfl) rfl
                  rcases h1 with rfl
                  exact does_off rfl (by kernel_rfl) e1 ne_ft (Grow.refl _) rfl
                -- 5: pick t41 t44 false
                · intro w1 hg Ar seen
                  obtain ⟨v1, e1, h1⟩ := seen.dep 1 (d := 41) (by kernel_rfl) (by kernel_rfl) rfl
                  rcases h1 with rfl
                  obtain ⟨v4, e4, h4⟩ := seen.dep 4 (d := 44) (by kernel_rfl) (by kernel_rfl) rfl
                  rcases h4 with rfl
                  refine does_plain rfl fun K Q' hK => ?_
                  go_simp; exact hK _ _ (Grow.refl _) rfl
                -- 6: move t45
                · intro w1 hg Ar seen
                  obtain ⟨v5, e5, h5⟩ := seen.dep 5 (d := 45) (by kernel_rfl) (by kernel_rfl) rfl
                  rcases h5 with rfl
                  refine does_plain rfl fun K Q' hK => ?_
                  go_simp; exact hK _ _ (Grow.refl _) rfl
                -- 7: load 39 t8
                · intro w1 hg Ar seen
                  obtain ⟨v6, e6, h6⟩ := seen.dep 6 (d := 46) (by kernel_rfl) (by kernel_rfl) rfl
                  rcases h6 with rfl
                  exact does_off rfl (by kernel_rfl) e6 ne_ft (Grow.refl _) rfl
                -- 8: move t9
                · intro w1 hg Ar seen
                  obtain ⟨v6, e6, h6⟩ := seen.dep 6 (d := 46) (by kernel_rfl) (by kernel_rfl) rfl
                  rcases h6 with rfl
                  exact does_off rfl (by kernel_rfl) e6 ne_ft (Grow.refl _) rfl
                -- 9: call fn16<life.Move> [t47, t48] T[39, 2]
                · intro w1 hg Ar seen
                  obtain ⟨v6, e6, h6⟩ := seen.dep 6 (d := 46) (by kernel_rfl) (by kernel_rfl) rfl
                  rcases h6 with rfl
                  exact does_off rfl (by kernel_rfl) e6 ne_ft (Grow.refl _) rfl
                -- 10: field 39 t49 6
                · intro w1 hg Ar seen
                  obtain ⟨v6, e6, h6⟩ := seen.dep 6 (d := 46) (by kernel_rfl) (by kernel_rfl) rfl
                  rcases h6 with rfl
                  exact does_off rfl (by kernel_rfl) e6 ne_ft (Grow.refl _) rfl
                -- 11: fieldAddr 39 t8 6
                · intro w1 hg Ar seen
                  obtain ⟨v6, e6, h6⟩ := seen.dep 6 (d := 46) (by kernel_rfl) (by kernel_rfl) rfl
                  rcases h6 with rfl
                  exact does_off rfl (by kernel_rfl) e6 ne_ft (Grow.refl _) rfl
                -- 12: load 3 t51
                · intro w1 hg Ar seen
                  obtain ⟨v6, e6, h6⟩ := seen.dep 6 (d := 46) (by kernel_rfl) (by kernel_rfl) rfl
                  rcases h6 with rfl
                  exact does_off rfl (by kernel_rfl) e6 ne_ft (Grow.refl _) rfl
                -- 13: binOp BinOp.neq 3 t50 t52 3
                · intro w1 hg Ar seen
                  obtain ⟨v6, e6, h6⟩ := seen.dep 6 (d := 46) (by kernel_rfl) (by kernel_rfl) rfl
                  rcases h6 with rfl
                  exact does_off rfl (by kernel_rfl) e6 ne_ft (Grow.refl _) rfl
                -- 14: pick t46 t53 false
                · intro w1 hg Ar seen
                  obtain ⟨v6, e6, h6⟩ := seen.dep 6 (d := 46) (by kernel_rfl) (by kernel_rfl) rfl
                  rcases h6 with rfl
                  obtain ⟨v13, e13, h13⟩ := seen.dep 13 (d := 53) (by kernel_rfl) (by kernel_rfl) rfl
                  rcases h13 with rfl
                  refine does_plain rfl fun K Q' hK => ?_
                  go_simp; exact hK _ _ (Grow.refl _) rfl
            intro w1 hg
            refine upon_w' (js := [0, 1, 2, 3, 4, 5, 6, 7, 8, 9, 10, 11, 12, 13, 14]) (by rfl) ?_
            refine upon_c (x := some 40) (by kernel_rfl) rfl fun v0 h0 => ?_
            rcases h0 with rfl
            refine upon_c (x := some 41) (by kernel_rfl) rfl fun v1 h1 => ?_
            rcases h1 with rfl
            refine upon_c (x := some 42) (by kernel_rfl) rfl fun v2 h2 => ?_
            rcases h2 with rfl
            refine upon_c (x := some 43) (by kernel_rfl) rfl fun v3 h3 => ?_
            rcases h3 with rfl
            refine upon_c (x := some 44) (by kernel_rfl) rfl fun v4 h4 => ?_
            rcases h4 with rfl
            refine upon_c (x := some 45) (by kernel_rfl) rfl fun v5 h5 => ?_
            rcases h5 with rfl
            refine upon_c (x := some 46) (by kernel_rfl) rfl fun v6 h6 => ?_
            rcases h6 with rfl
            refine upon_c (x := some 47) (by kernel_rfl) rfl fun v7 h7 => ?_
            rcases h7 with rfl
            refine upon_c (x := some 48) (by kernel_rfl) rfl fun v8 h8 => ?_
            rcases h8 with rfl
            refine upon_c (x := some 49) (by kernel_rfl) rfl fun v9 h9 => ?_
            rcases h9 with rfl
            refine upon_c (x := some 50) (by kernel_rfl) rfl fun v10 h10 => ?_
            rcases h10 with rfl
            refine upon_c (x := some 51) (by kernel_rfl) rfl fun v11 h11 => ?_
            rcases h11 with rfl
            refine upon_c (x := some 52) (by kernel_rfl) rfl fun v12 h12 => ?_
            rcases h12 with rfl
            refine upon_c (x := some 53) (by kernel_rfl) rfl fun v13 h13 => ?_
            rcases h13 with rfl
            refine upon_c (x := some 54) (by kernel_rfl) rfl fun v14 h14 => ?_
            rcases h14 with rfl
            refine upon_n ?_
            go_simp
            go_simp
            have HL2 := hid (HL.out.below hg)
            clear hg HL
            go_wp2_with (refine wpList_load_row rfl 39 _ rfl (p + 1) rfl _ _ _ _ HL2.out.o2 Try.underlying39 rfl (by rw [objCells_size]; exact oSizeO) ?_)
            refine (move_any P s' (T + d) _ HL2.out.m2).mono ?_
            rintro e w5 ⟨s5, rfl, hm5, hf5, hb5⟩
            have HL5 := hid (HL2.out.below hb5)
            have HM5 := hid hm5
            have HF5 := hid (fun k hk => Nat.le_trans (block_lt HL2.out.o2) (hf5 k hk))
            clear hm5 hf5 hb5 HL2
            go_wp2_with (refine wpList_store_obj rfl 39 _ _ rfl (p + 1) rfl _ rfl _ _ HL5.out.o2 rfl (by rw [objCells_size]; exact oSizeO) (oc_one _ _) ?_; intro w6 hb6 hc6 hs6; have HB6 := hid hb6; have HC6 := hid hc6; have HS6 := hid hs6; clear hb6 hc6 hs6)
            have HL6 := hid (HL5.out.store HB6.out HC6.out HM5.out HF5.out)
            go_roundw
            case rel =>
              have h1 : Moving O (movedOf P (T + d)) (T + d) := HMV.out.step (by omega)
              have h2 : (movedOf P (T + d)).st = (movedOf O (T + d)).st := HMV.out.stand (by omega)
              first
                | exact ⟨k + 1, T + d, movedOf P (T + d), s5, by omega, by omega, rfl, rfl, by omega, by omega, h1, fun _ => h2, HL6.out⟩
                | ((repeat apply Exists.intro); exact ⟨⟨k + 1, T + d, movedOf P (T + d), s5, by omega, by omega, by go_num, rfl, by omega, by omega, h1, fun _ => h2, HL6.out⟩, rfl⟩)
            case measure => simp [intOf]; omega
          | true =>
            by_cases hgt : T + d < tt
            · have HPP : Hid (movedOf P (T + d) = P) := HAH.out (by rintro ⟨_, h⟩; omega)
              refine wp_region_each 15 [.eq (.bool true), .eq (.bool true), .eq (.int .i64 tt), .eq (.int .i64 (T + d)), .eq (.bool true), .eq (.bool true), .eq (.bool true), .eq (.agg (objCells P s')), .eq (.int .i64 (T + d)), stMoved P, .eq (.int .i64 P.st), .eq (.pointer (some ⟨p + 1, 6, none⟩)), .eq (.int .i64 P.st), .eq (.bool false), .eq (.bool false)] (by kernel_rfl) (by kernel_rfl) (by kernel_rfl) (by kernel_rfl) ?_ ?_
              · as_aux_lemma =>
                  refine each_c (o' := _) ?_ (each_c (o' := _) ?_ (each_c (o' := _) ?_ (each_c (o' := _) ?_ (each_c (o' := _) ?_ (each_c (o' := _) ?_ (each_c (o' := _) ?_ (each_c (o' := _) ?_ (each_c (o' := _) ?_ (each_c (o' := _) ?_ (each_c (o' := _) ?_ (each_c (o' := _) ?_ (each_c (o' := _) ?_ (each_c (o' := _) ?_ (each_c (o' := _) ?_ (each_n)))))))))))))))
                  -- 0: move t12
                  · intro w1 hg Ar seen
                    have s12 := seen.slot 12 (v := .bool true) (by kernel_rfl) rfl
                    refine does_plain rfl fun K Q' hK => ?_
                    go_simp; exact hK _ _ (Grow.refl _) rfl
                  -- 1: move t40
                  · intro w1 hg Ar seen
                    obtain ⟨v0, e0, h0⟩ := seen.dep 0 (d := 40) (by kernel_rfl) (by kernel_rfl) rfl
                    rcases h0 with rfl
                    refine does_plain rfl fun K Q' hK => ?_
                    go_simp; exact hK _ _ (Grow.refl _) rfl
                  -- 2: move t11
                  · intro w1 hg Ar seen
                    obtain ⟨v1, e1, h1⟩ := seen.dep 1 (d := 41) (by kernel_rfl) (by kernel_rfl) rfl
                    rcases h1 with rfl
                    have s11 := seen.slot 11 (v := .int .i64 tt) (by kernel_rfl) rfl
                    refine does_on rfl (by kernel_rfl) e1 fun K Q' hK => ?_
                    clear e1
                    go_simp; exact hK _ _ (Grow.refl _) rfl
                  -- 3: move t9
                  · intro w1 hg Ar seen
                    obtain ⟨v1, e1, h1⟩ := seen.dep 1 (d := 41) (by kernel_rfl) (by kernel_rfl) rfl
                    rcases h1 with rfl
                    have s9 := seen.slot 9 (v := .int .i64 (T + d)) (by kernel_rfl) rfl
                    refine does_on rfl (by kernel_rfl) e1 fun K Q' hK => ?_
                    clear e1
                    go_simp; exact hK _ _ (Grow.refl _) rfl
                  -- 4: binOp BinOp.gtr 2 t42 t43 2
                  · intro w1 hg Ar seen
                    obtain ⟨v2, e2, h2⟩ := seen.dep 2 (d := 42) (by kernel_rfl) (by kernel_rfl) rfl
                    rcases h2 with rfl
                    obtain ⟨v3, e3, h3⟩ := seen.dep 3 (d := 43) (by kernel_rfl) (by kernel_rfl) rfl
                    rcases h3 with rfl
                    obtain ⟨v1, e1, h1⟩ := seen.dep 1 (d := 41) (by kernel_rfl) (by kernel_rfl) rfl
                    rcases h1 with rfl
                    refine does_on rfl (by kernel_rfl) e1 fun K Q' hK => ?_
                    clear e1
                    go_simp; exact hK _ _ (Grow.refl _) rfl
                  -- 5: pick t41 t44 false
                  · intro w1 hg Ar seen
                    obtain ⟨v1, e1, h1⟩ := seen.dep 1 (d := 41) (by kernel_rfl) (by kernel_rfl) rfl
                    rcases h1 with rfl
                    obtain ⟨v4, e4, h4⟩ := seen.dep 4 (d := 44) (by kernel_rfl) (by kernel_rfl) rfl
                    rcases h4 with rfl
                    refine does_plain rfl fun K Q' hK => ?_
                    go_simp; exact hK _ _ (Grow.refl _) rfl
                  -- 6: move t45
                  · intro w1 hg Ar seen
                    obtain ⟨v5, e5, h5⟩ := seen.dep 5 (d := 45) (by kernel_rfl) (by kernel_rfl) rfl
                    rcases h5 with rfl
                    refine does_plain rfl fun K Q' hK => ?_
                    go_simp; exact hK _ _ (Grow.refl _) rfl
                  -- 7: load 39 t8
                  · intro w1 hg Ar seen
                    obtain ⟨v6, e6, h6⟩ := seen.dep 6 (d := 46) (by kernel_rfl) (by kernel_rfl) rfl
                    rcases h6 with rfl
                    have s8 := seen.slot 8 (v := .pointer (some ⟨p + 1, 0, none⟩)) (by kernel_rfl) rfl
                    refine does_on rfl (by kernel_rfl) e6 fun K Q' hK => ?_
                    clear e6
                    refine wp_load_row 39 _ rfl (p + 1) (by simp [Act.eval, s8]) _ _ _ _ ((hg.block _ (block_lt HL.out.o2)).trans HL.out.o2) Try.underlying39 rfl (by rw [objCells_size]; exact oSizeO) ?_
                    exact hK _ _ (Grow.refl _) rfl
                  -- 8: move t9
                  · intro w1 hg Ar seen
                    obtain ⟨v6, e6, h6⟩ := seen.dep 6 (d := 46) (by kernel_rfl) (by kernel_rfl) rfl
                    rcases h6 with rfl
                    have s9 := seen.slot 9 (v := .int .i64 (T + d)) (by kernel_rfl) rfl
                    refine does_on rfl (by kernel_rfl) e6 fun K Q' hK => ?_
                    clear e6
                    go_simp; exact hK _ _ (Grow.refl _) rfl
                  -- 9: call fn16<life.Move> [t47, t48] T[39, 2]
                  · intro w1 hg Ar seen
                    obtain ⟨v7, e7, h7⟩ := seen.dep 7 (d := 47) (by kernel_rfl) (by kernel_rfl) rfl
                    rcases h7 with rfl
                    obtain ⟨v8, e8, h8⟩ := seen.dep 8 (d := 48) (by kernel_rfl) (by kernel_rfl) rfl
                    rcases h8 with rfl
                    obtain ⟨v6, e6, h6⟩ := seen.dep 6 (d := 46) (by kernel_rfl) (by kernel_rfl) rfl
                    rcases h6 with rfl
                    refine does_on rfl (by kernel_rfl) e6 fun K Q' hK => ?_
                    clear e6
                    go_simp
                    refine (move_any P s' (T + d) _ (HL.out.m2.below hg)).mono ?_
                    rintro e u ⟨s9, rfl, hm, _, hb⟩
                    rw [HPP.out] at hm ⊢
                    exact hK _ _ hb ⟨s9, rfl, hm⟩
                  -- 10: field 39 t49 6
                  · intro w1 hg Ar seen
                    obtain ⟨v9, e9, h9⟩ := seen.dep 9 (d := 49) (by kernel_rfl) (by kernel_rfl) rfl
                    obtain ⟨v6, e6, h6⟩ := seen.dep 6 (d := 46) (by kernel_rfl) (by kernel_rfl) rfl
                    rcases h6 with rfl
                    refine does_on rfl (by kernel_rfl) e6 fun K Q' hK => ?_
                    clear e6
                    obtain ⟨s9, rfl, hm⟩ := h9
                    have f6 := oc6 P s9
                    generalize objCells P s9 = A at *
                    have hfld := fun w => run_field_cell (P := Try.prog) Try.underlying39 6 rfl Try.underlying3 rfl A _ f6 w
                    go_simp
                    exact hK _ _ (Grow.refl _) rfl
                  -- 11: fieldAddr 39 t8 6
                  · intro w1 hg Ar seen
                    obtain ⟨v6, e6, h6⟩ := seen.dep 6 (d := 46) (by kernel_rfl) (by kernel_rfl) rfl
                    rcases h6 with rfl
                    have s8 := seen.slot 8 (v := .pointer (some ⟨p + 1, 0, none⟩)) (by kernel_rfl) rfl
                    refine does_on rfl (by kernel_rfl) e6 fun K Q' hK => ?_
                    clear e6
                    go_simp; exact hK _ _ (Grow.refl _) rfl
                  -- 12: load 3 t51
                  · intro w1 hg Ar seen
                    obtain ⟨v11, e11, h11⟩ := seen.dep 11 (d := 51) (by kernel_rfl) (by kernel_rfl) rfl
                    rcases h11 with rfl
                    obtain ⟨v6, e6, h6⟩ := seen.dep 6 (d := 46) (by kernel_rfl) (by kernel_rfl) rfl
                    rcases h6 with rfl
                    refine does_on rfl (by kernel_rfl) e6 fun K Q' hK => ?_
                    clear e6
                    have hc := cell_of_block (j := 6) ((hg.block _ (block_lt HL.out.o2)).trans HL.out.o2) (oc6 P s')
                    go_simp; exact hK _ _ (Grow.refl _) rfl
                  -- 13: binOp BinOp.neq 3 t50 t52 3
                  · intro w1 hg Ar seen
                    obtain ⟨v10, e10, h10⟩ := seen.dep 10 (d := 50) (by kernel_rfl) (by kernel_rfl) rfl
                    rcases h10 with rfl
                    obtain ⟨v12, e12, h12⟩ := seen.dep 12 (d := 52) (by kernel_rfl) (by kernel_rfl) rfl
                    rcases h12 with rfl
                    obtain ⟨v6, e6, h6⟩ := seen.dep 6 (d := 46) (by kernel_rfl) (by kernel_rfl) rfl
                    rcases h6 with rfl
                    refine does_on rfl (by kernel_rfl) e6 fun K Q' hK => ?_
                    clear e6
                    go_simp; exact hK _ _ (Grow.refl _) rfl
                  -- 14: pick t46 t53 false
                  · intro w1 hg Ar seen
                    obtain ⟨v6, e6, h6⟩ := seen.dep 6 (d := 46) (by kernel_rfl) (by kernel_rfl) rfl
                    rcases h6 with rfl
                    obtain ⟨v13, e13, h13⟩ := seen.dep 13 (d := 53) (by kernel_rfl) (by kernel_rfl) rfl
                    rcases h13 with rfl
                    refine does_plain rfl fun K Q' hK => ?_
                    go_simp; exact hK _ _ (Grow.refl _) rfl
              intro w1 hg
              refine upon_w' (js := [0, 1, 2, 3, 4, 5, 6, 7, 8, 9, 10, 11, 12, 13, 14]) (by rfl) ?_
              refine upon_c (x := some 40) (by kernel_rfl) rfl fun v0 h0 => ?_
              rcases h0 with rfl
              refine upon_c (x := some 41) (by kernel_rfl) rfl fun v1 h1 => ?_
              rcases h1 with rfl
              refine upon_c (x := some 42) (by kernel_rfl) rfl fun v2 h2 => ?_
              rcases h2 with rfl
              refine upon_c (x := some 43) (by kernel_rfl) rfl fun v3 h3 => ?_
              rcases h3 with rfl
              refine upon_c (x := some 44) (by kernel_rfl) rfl fun v4 h4 => ?_
              rcases h4 with rfl
              refine upon_c (x := some 45) (by kernel_rfl) rfl fun v5 h5 => ?_
              rcases h5 with rfl
              refine upon_c (x := some 46) (by kernel_rfl) rfl fun v6 h6 => ?_
              rcases h6 with rfl
              refine upon_c (x := some 47) (by kernel_rfl) rfl fun v7 h7 => ?_
              rcases h7 with rfl
              refine upon_c (x := some 48) (by kernel_rfl) rfl fun v8 h8 => ?_
              rcases h8 with rfl
              refine upon_c (x := some 49) (by kernel_rfl) rfl fun v9 h9 => ?_
              refine upon_c (x := some 50) (by kernel_rfl) rfl fun v10 h10 => ?_
              rcases h10 with rfl
              refine upon_c (x := some 51) (by kernel_rfl) rfl fun v11 h11 => ?_
              rcases h11 with rfl
              refine upon_c (x := some 52) (by kernel_rfl) rfl fun v12 h12 => ?_
              rcases h12 with rfl
              refine upon_c (x := some 53) (by kernel_rfl) rfl fun v13 h13 => ?_
              rcases h13 with rfl
              refine upon_c (x := some 54) (by kernel_rfl) rfl fun v14 h14 => ?_
              rcases h14 with rfl
              refine upon_n ?_
              go_simp
              go_simp
              have HL2 := hid (HL.out.below hg)
              clear hg HL
              go_wp2_with (refine wpList_load_row rfl 39 _ rfl (p + 1) rfl _ _ _ _ HL2.out.o2 Try.underlying39 rfl (by rw [objCells_size]; exact oSizeO) ?_)
              refine (move_any P s' (T + d) _ HL2.out.m2).mono ?_
              rintro e w5 ⟨s5, rfl, hm5, hf5, hb5⟩
              have HL5 := hid (HL2.out.below hb5)
              have HM5 := hid hm5
              have HF5 := hid (fun k hk => Nat.le_trans (block_lt HL2.out.o2) (hf5 k hk))
              clear hm5 hf5 hb5 HL2
              go_wp2_with (refine wpList_store_obj rfl 39 _ _ rfl (p + 1) rfl _ rfl _ _ HL5.out.o2 rfl (by rw [objCells_size]; exact oSizeO) (oc_one _ _) ?_; intro w6 hb6 hc6 hs6; have HB6 := hid hb6; have HC6 := hid hc6; have HS6 := hid hs6; clear hb6 hc6 hs6)
              have HL6 := hid (HL5.out.store HB6.out HC6.out HM5.out HF5.out)
              go_roundw
              case rel =>
                have h1 : Moving O (movedOf P (T + d)) (T + d) := HMV.out.step (by omega)
                have h2 : (movedOf P (T + d)).st = (movedOf O (T + d)).st := HMV.out.stand (by omega)
                first
                  | exact ⟨k + 1, T + d, movedOf P (T + d), s5, by omega, by omega, rfl, rfl, by omega, by omega, h1, fun _ => h2, HL6.out⟩
                  | ((repeat apply Exists.intro); exact ⟨⟨k + 1, T + d, movedOf P (T + d), s5, by omega, by omega, by go_num, rfl, by omega, by omega, h1, fun _ => h2, HL6.out⟩, rfl⟩)
              case measure => simp [intOf]; omega
            · have hgt' : tt ≤ T + d := by omega
              refine wp_region_each 15 [.eq (.bool true), .eq (.bool true), .eq (.int .i64 tt), .eq (.int .i64 (T + d)), .eq (.bool false), .eq (.bool false), .eq (.bool false), .eq undef, .eq undef, .eq undef, .eq undef, .eq undef, .eq undef, .eq undef, .eq (.bool false)] (by kernel_rfl) (by kernel_rfl) (by kernel_rfl) (by kernel_rfl) ?_ ?_
              · as_aux_lemma =>
                  refine each_c (o' := _) ?_ (each_c (o' := _) ?_ (each_c (o' := _) ?_ (each_c (o' := _) ?_ (each_c (o' := _) ?_ (each_c (o' := _) ?_ (each_c (o' := _) ?_ (each_c (o' := _) ?_ (each_c (o' := _) ?_ (each_c (o' := _) ?_ (each_c (o' := _) ?_ (each_c (o' := _) ?_ (each_c (o' := _) ?_ (each_c (o' := _) ?_ (each_c (o' := _) ?_ (each_n)))))))))))))))
                  -- 0: move t12
                  · intro w1 hg Ar seen
                    have s12 := seen.slot 12 (v := .bool true) (by kernel_rfl) rfl
                    refine does_plain rfl fun K Q' hK => ?_
                    go_simp; exact hK _ _ (Grow.refl _) rfl
                  -- 1: move t40
                  · intro w1 hg Ar seen
                    obtain ⟨v0, e0, h0⟩ := seen.dep 0 (d := 40) (by kernel_rfl) (by kernel_rfl) rfl
                    rcases h0 with rfl
                    refine does_plain rfl fun K Q' hK => ?_
                    go_simp; exact hK _ _ (Grow.refl _) rfl
                  -- 2: move t11
                  · intro w1 hg Ar seen
                    obtain ⟨v1, e1, h1⟩ := seen.dep 1 (d := 41) (by kernel_rfl) (by kernel_rfl) rfl
                    rcases h1 with rfl
                    have s11 := seen.slot 11 (v := .int .i64 tt) (by kernel_rfl) rfl
                    refine does_on rfl (by kernel_rfl) e1 fun K Q' hK => ?_
                    clear e1
                    go_simp; exact hK _ _ (Grow.refl _) rfl
                  -- 3: move t9
                  · intro w1 hg Ar seen
                    obtain ⟨v1, e1, h1⟩ := seen.dep 1 (d := 41) (by kernel_rfl) (by kernel_rfl) rfl
                    rcases h1 with rfl
                    have s9 := seen.slot 9 (v := .int .i64 (T + d)) (by kernel_rfl) rfl
                    refine does_on rfl (by kernel_rfl) e1 fun K Q' hK => ?_
                    clear e1
                    go_simp; exact hK _ _ (Grow.refl _) rfl
                  -- 4: binOp BinOp.gtr 2 t42 t43 2
                  · intro w1 hg Ar seen
                    obtain ⟨v2, e2, h2⟩ := seen.dep 2 (d := 42) (by kernel_rfl) (by kernel_rfl) rfl
                    rcases h2 with rfl
                    obtain ⟨v3, e3, h3⟩ := seen.dep 3 (d := 43) (by kernel_rfl) (by kernel_rfl) rfl
                    rcases h3 with rfl
                    obtain ⟨v1, e1, h1⟩ := seen.dep 1 (d := 41) (by kernel_rfl) (by kernel_rfl) rfl
                    rcases h1 with rfl
                    refine does_on rfl (by kernel_rfl) e1 fun K Q' hK => ?_
                    clear e1
                    go_simp; exact hK _ _ (Grow.refl _) rfl
                  -- 5: pick t41 t44 false
                  · intro w1 hg Ar seen
                    obtain ⟨v1, e1, h1⟩ := seen.dep 1 (d := 41) (by kernel_rfl) (by kernel_rfl) rfl
                    rcases h1 with rfl
                    obtain ⟨v4, e4, h4⟩ := seen.dep 4 (d := 44) (by kernel_rfl) (by kernel_rfl) rfl
                    rcases h4 with rfl
                    refine does_plain rfl fun K Q' hK => ?_
                    go_simp; exact hK _ _ (Grow.refl _) rfl
                  -- 6: move t45
                  · intro w1 hg Ar seen
                    obtain ⟨v5, e5, h5⟩ := seen.dep 5 (d := 45) (by kernel_rfl) (by kernel_rfl) rfl
                    rcases h5 with rfl
                    refine does_plain rfl fun K Q' hK => ?_
                    go_simp; exact hK _ _ (Grow.refl _) rfl
                  -- 7: load 39 t8
                  · intro w1 hg Ar seen
                    obtain ⟨v6, e6, h6⟩ := seen.dep 6 (d := 46) (by kernel_rfl) (by kernel_rfl) rfl
                    rcases h6 with rfl
                    exact does_off rfl (by kernel_rfl) e6 ne_ft (Grow.refl _) rfl
                  -- 8: move t9
                  · intro w1 hg Ar seen
                    obtain ⟨v6, e6, h6⟩ := seen.dep 6 (d := 46) (by kernel_rfl) (by kernel_rfl) rfl
                    rcases h6 with rfl
                    exact does_off rfl (by kernel_rfl) e6 ne_ft (Grow.refl _) rfl
                  -- 9: call fn16<life.Move> [t47, t48] T[39, 2]
                  · intro w1 hg Ar seen
                    obtain ⟨v6, e6, h6⟩ := seen.dep 6 (d := 46) (by kernel_rfl) (by kernel_rfl) rfl
                    rcases h6 with rfl
                    exact does_off rfl (by kernel_rfl) e6 ne_ft (Grow.refl _) rfl
                  -- 10: field 39 t49 6
                  · intro w1 hg Ar seen
                    obtain ⟨v6, e6, h6⟩ := seen.dep 6 (d := 46) (by kernel_rfl) (by kernel_rfl) rfl
                    rcases h6 with rfl
                    exact does_off rfl (by kernel_rfl) e6 ne_ft (Grow.refl _) rfl
                  -- 11: fieldAddr 39 t8 6
                  · intro w1 hg Ar seen
                    obtain ⟨v6, e6, h6⟩ := seen.dep 6 (d := 46) (by kernel_rfl) (by kernel_rfl) rfl
                    rcases h6 with rfl
                    exact does_off rfl (by kernel_rfl) e6 ne_ft (Grow.refl _) rfl
                  -- 12: load 3 t51
                  · intro w1 hg Ar seen
                    obtain ⟨v6, e6, h6⟩ := seen.dep 6 (d := 46) (by kernel_rfl) (by kernel_rfl) rfl
                    rcases h6 with rfl
                    exact does_off rfl (by kernel_rfl) e6 ne_ft (Grow.refl _) rfl
                  -- 13: binOp BinOp.neq 3 t50 t52 3
                  · intro w1 hg Ar seen
                    obtain ⟨v6, e6, h6⟩ := seen.dep 6 (d := 46) (by kernel_rfl) (by kernel_rfl) rfl
                    rcases h6 with rfl
                    exact does_off rfl (by kernel_rfl) e6 ne_ft (Grow.refl _) rfl
                  -- 14: pick t46 t53 false
                  · intro w1 hg Ar seen
                    obtain ⟨v6, e6, h6⟩ := seen.dep 6 (d := 46) (by kernel_rfl) (by kernel_rfl) rfl
                    rcases h6 with rfl
                    obtain ⟨v13, e13, h13⟩ := seen.dep 13 (d := 53) (by kernel_rfl) (by kernel_rfl) rfl
                    rcases h13 with rfl
                    refine does_plain rfl fun K Q' hK => ?_
                    go_simp; exact hK _ _ (Grow.refl _) rfl
              intro w1 hg
              refine upon_w' (js := [0, 1, 2, 3, 4, 5, 6, 7, 8, 9, 10, 11, 12, 13, 14]) (by rfl) ?_
              refine upon_c (x := some 40) (by kernel_rfl) rfl fun v0 h0 => ?_
              rcases h0 with rfl
              refine upon_c (x := some 41) (by kernel_rfl) rfl fun v1 h1 => ?_
              rcases h1 with rfl
              refine upon_c (x := some 42) (by kernel_rfl) rfl fun v2 h2 => ?_
              rcases h2 with rfl
              refine upon_c (x := some 43) (by kernel_rfl) rfl fun v3 h3 => ?_
              rcases h3 with rfl
              refine upon_c (x := some 44) (by kernel_rfl) rfl fun v4 h4 => ?_
              rcases h4 with rfl
              refine upon_c (x := some 45) (by kernel_rfl) rfl fun v5 h5 => ?_
              rcases h5 with rfl
              refine upon_c (x := some 46) (by kernel_rfl) rfl fun v6 h6 => ?_
              rcases h6 with rfl
              refine upon_c (x := some 47) (by kernel_rfl) rfl fun v7 h7 => ?_
              rcases h7 with rfl
              refine upon_c (x := some 48) (by kernel_rfl) rfl fun v8 h8 => ?_
              rcases h8 with rfl
              refine upon_c (x := some 49) (by kernel_rfl) rfl fun v9 h9 => ?_
              rcases h9 with rfl
              refine upon_c (x := some 50) (by kernel_rfl) rfl fun v10 h10 => ?_
              rcases h10 with rfl
              refine upon_c (x := some 51) (by kernel_rfl) rfl fun v11 h11 => ?_
              rcases h11 with rfl
              refine upon_c (x := some 52) (by kernel_rfl) rfl fun v12 h12 => ?_
              rcases h12 with rfl
              refine upon_c (x := some 53) (by kernel_rfl) rfl fun v13 h13 => ?_
              rcases h13 with rfl
              refine upon_c (x := some 54) (by kernel_rfl) rfl fun v14 h14 => ?_
              rcases h14 with rfl
              refine upon_n ?_
              go_simp
              go_simp
              have HL2 := hid (HL.out.below hg)
              clear hg HL
              go_wp2_with (refine wpList_load_row rfl 39 _ rfl (p + 1) rfl _ _ _ _ HL2.out.o2 Try.underlying39 rfl (by rw [objCells_size]; exact oSizeO) ?_)
              refine (move_any P s' (T + d) _ HL2.out.m2).mono ?_
              rintro e w5 ⟨s5, rfl, hm5, hf5, hb5⟩
              have HL5 := hid (HL2.out.below hb5)
              have HM5 := hid hm5
              have HF5 := hid (fun k hk => Nat.le_trans (block_lt HL2.out.o2) (hf5 k hk))
              clear hm5 hf5 hb5 HL2
              go_wp2_with (refine wpList_store_obj rfl 39 _ _ rfl (p + 1) rfl _ rfl _ _ HL5.out.o2 rfl (by rw [objCells_size]; exact oSizeO) (oc_one _ _) ?_; intro w6 hb6 hc6 hs6; have HB6 := hid hb6; have HC6 := hid hc6; have HS6 := hid hs6; clear hb6 hc6 hs6)
              have HL6 := hid (HL5.out.store HB6.out HC6.out HM5.out HF5.out)
              go_roundw
              case rel =>
                have h1 : Moving O (movedOf P (T + d)) (T + d) := HMV.out.step (by omega)
                have h2 : (movedOf P (T + d)).st = (movedOf O (T + d)).st := HMV.out.stand (by omega)
                first
                  | exact ⟨k + 1, T + d, movedOf P (T + d), s5, by omega, by omega, rfl, rfl, by omega, by omega, h1, fun _ => h2, HL6.out⟩
                  | ((repeat apply Exists.intro); exact ⟨⟨k + 1, T + d, movedOf P (T + d), s5, by omega, by omega, by go_num, rfl, by omega, by omega, h1, fun _ => h2, HL6.out⟩, rfl⟩)
              case measure => simp [intOf]; omega
        · obtain rfl : k = 20 := by omega
          go_wp2_with fail
          go_meet
          exact ⟨T, P, s', rfl, HL.out, fun _ => HST.out (by omega)⟩
      · obtain rfl : k = nS := by omega
        go_wp2_with fail
        go_meet
        exact ⟨T, P, s', rfl, HL.out, fun h => HST.out h⟩
  case rest =>
    obtain ⟨T, P, s', rfl, hl, hst⟩ := hcut
    clear HL
    have HL := hid hl; have HST := hid hst
    clear hl hst
    go_wp2_with (refine wpList_load_row rfl 39 _ rfl p rfl _ _ _ _ HL.out.o1 Try.underlying39 rfl (by rw [objCells_size]; exact oSizeO) ?_)
    refine (move_any O s T _ HL.out.m1).mono ?_
    rintro e w7 ⟨s7, rfl, hm7, hf7, hb7⟩
    have HL7 := hid (HL.out.below hb7)
    have HM7 := hid hm7
    clear hm7 hf7 hb7 HL
    have HQQ := hid (moved_stays O T)
    generalize movedOf O T = Q at *
    go_upto_region 13 with (first | (refine wpList_alloc_obj rfl 39 rfl _ oZeroO ?_) | (refine wpList_store_obj rfl 39 _ _ rfl w7.heap.size rfl _ rfl _ _ (block_new w7 _) rfl (by rw [objCells_size]; exact oSizeO) (oc_one _ _) ?_; intro w8 hb8 hc8 hs8; have HB8 := hid hb8; have HC8 := hid hc8; have HS8 := hid hs8; clear hb8 hc8 hs8))
    go_simp
    have hbel : Below w7.heap.size w7 w8 := ((Below.refl _ w7).alloc (Nat.le_refl _) _).trans (HC8.out.below (fun k hk => by rw [List.mem_singleton.1 hk]; exact Nat.le_refl _) (by simp))
    have HL8 := hid (HL7.out.below hbel)
    have HM8 := hid (HM7.out.below hbel)
    clear hbel HL7 HM7 HC8 HS8
    generalize w7.heap.size = r at *
    by_cases hn0 : nS = 0
    · subst hn0
      refine wp_region_each 20 [.eq (.bool true), .eq (.bool true), .eq (.slice aS 0 cS), .eq (.int .i64 0), .eq (.bool true), .eq (.bool true), .eq undef, .eq undef, .eq undef, .eq undef, .eq undef, .eq (.bool true), .eq (.bool true), .eq (.bool true), .eq (.agg (objCells Q s7)), .eq (.int .i64 T), stMoved Q, .eq (.agg (objCells Q s7)), .eq (.bool true), .eq (.bool true)] (by kernel_rfl) (by kernel_rfl) (by kernel_rfl) (by kernel_rfl) ?_ ?_
      · as_aux_lemma =>
          refine each_c (o' := _) ?_ (each_c (o' := _) ?_ (each_c (o' := _) ?_ (each_c (o' := _) ?_ (each_c (o' := _) ?_ (each_c (o' := _) ?_ (each_c (o' := _) ?_ (each_c (o' := _) ?_ (each_c (o' := _) ?_ (each_c (o' := _) ?_ (each_c (o' := _) ?_ (each_c (o' := _) ?_ (each_c (o' := _) ?_ (each_c (o' := _) ?_ (each_c (o' := _) ?_ (each_c (o' := _) ?_ (each_c (o' := _) ?_ (each_c (o' := _) ?_ (each_c (o' := _) ?_ (each_c (o' := _) ?_ (each_n))))))))))))))))))))
          -- 0: call fn7<locksmithlaw11.known> [] T[]
          · intro w1 hg Ar seen
            refine does_plain rfl fun K Q' hK => ?_
            go_simp
            refine (known11_any _).mono ?_
            rintro e u ⟨rfl, hb⟩
            exact hK _ _ hb rfl
          -- 1: move t61
          · intro w1 hg Ar seen
            obtain ⟨v0, e0, h0⟩ := seen.dep 0 (d := 61) (by kernel_rfl) (by kernel_rfl) rfl
            rcases h0 with rfl
            refine does_plain rfl fun K Q' hK => ?_
            go_simp; exact hK _ _ (Grow.refl _) rfl
          -- 2: move t2
          · intro w1 hg Ar seen
            obtain ⟨v1, e1, h1⟩ := seen.dep 1 (d := 62) (by kernel_rfl) (by kernel_rfl) rfl
            rcases h1 with rfl
            have s2 := seen.slot 2 (v := .slice aS 0 cS) (by kernel_rfl) rfl
            refine does_on rfl (by kernel_rfl) e1 fun K Q' hK => ?_
            clear e1
            go_simp; exact hK _ _ (Grow.refl _) rfl
          -- 3: call len [t63] T[41]
          · intro w1 hg Ar seen
            obtain ⟨v2, e2, h2⟩ := seen.dep 2 (d := 63) (by kernel_rfl) (by kernel_rfl) rfl
            rcases h2 with rfl
            obtain ⟨v1, e1, h1⟩ := seen.dep 1 (d := 62) (by kernel_rfl) (by kernel_rfl) rfl
            rcases h1 with rfl
            refine does_on rfl (by kernel_rfl) e1 fun K Q' hK => ?_
            clear e1
            go_simp; exact hK _ _ (Grow.refl _) rfl
          -- 4: binOp BinOp.eql 3 t64 0:i64 3
          · intro w1 hg Ar seen
            obtain ⟨v3, e3, h3⟩ := seen.dep 3 (d := 64) (by kernel_rfl) (by kernel_rfl) rfl
            rcases h3 with rfl
            obtain ⟨v1, e1, h1⟩ := seen.dep 1 (d := 62) (by kernel_rfl) (by kernel_rfl) rfl
            rcases h1 with rfl
            refine does_on rfl (by kernel_rfl) e1 fun K Q' hK => ?_
            clear e1
            go_simp; exact hK _ _ (Grow.refl _) rfl
          -- 5: move t65
          · intro w1 hg Ar seen
            obtain ⟨v4, e4, h4⟩ := seen.dep 4 (d := 65) (by kernel_rfl) (by kernel_rfl) rfl
            rcases h4 with rfl
            obtain ⟨v1, e1, h1⟩ := seen.dep 1 (d := 62) (by kernel_rfl) (by kernel_rfl) rfl
            rcases h1 with rfl
            refine does_on rfl (by kernel_rfl) e1 fun K Q' hK => ?_
            clear e1
            go_simp; exact hK _ _ (Grow.refl _) rfl
          -- 6: fieldAddr 39 t13 6
          · intro w1 hg Ar seen
            obtain ⟨v5, e5, h5⟩ := seen.dep 5 (d := 66) (by kernel_rfl) (by kernel_rfl) rfl
            rcases h5 with rfl
            exact does_off rfl (by kernel_rfl) e5 ne_tf (Grow.refl _) rfl
          -- 7: load 3 t67
          · intro w1 hg Ar seen
            obtain ⟨v5, e5, h5⟩ := seen.dep 5 (d := 66) (by kernel_rfl) (by kernel_rfl) rfl
            rcases h5 with rfl
            exact does_off rfl (by kernel_rfl) e5 ne_tf (Grow.refl _) rfl
          -- 8: fieldAddr 39 t8 6
          · intro w1 hg Ar seen
            obtain ⟨v5, e5, h5⟩ := seen.dep 5 (d := 66) (by kernel_rfl) (by kernel_rfl) rfl
            rcases h5 with rfl
            exact does_off rfl (by kernel_rfl) e5 ne_tf (Grow.refl _) rfl
          -- 9: load 3 t69
          · intro w1 hg Ar seen
            obtain ⟨v5, e5, h5⟩ := seen.dep 5 (d := 66) (by kernel_rfl) (by kernel_rfl) rfl
            rcases h5 with rfl
            exact does_off rfl (by kernel_rfl) e5 ne_tf (Grow.refl _) rfl
          -- 10: binOp BinOp.eql 3 t68 t70 3
          · intro w1 hg Ar seen
            obtain ⟨v5, e5, h5⟩ := seen.dep 5 (d := 66) (by kernel_rfl) (by kernel_rfl) rfl
            rcases h5 with rfl
            exact does_off rfl (by kernel_rfl) e5 ne_tf (Grow.refl _) rfl
          -- 11: pick t66 true t71
          · intro w1 hg Ar seen
            obtain ⟨v5, e5, h5⟩ := seen.dep 5 (d := 66) (by kernel_rfl) (by kernel_rfl) rfl
            rcases h5 with rfl
            obtain ⟨v10, e10, h10⟩ := seen.dep 10 (d := 71) (by kernel_rfl) (by kernel_rfl) rfl
            rcases h10 with rfl
            obtain ⟨v1, e1, h1⟩ := seen.dep 1 (d := 62) (by kernel_rfl) (by kernel_rfl) rfl
            rcases h1 with rfl
            refine does_on rfl (by kernel_rfl) e1 fun K Q' hK => ?_
            clear e1
            go_simp; exact hK _ _ (Grow.refl _) rfl
          -- 12: pick t62 t72 false
          · intro w1 hg Ar seen
            obtain ⟨v1, e1, h1⟩ := seen.dep 1 (d := 62) (by kernel_rfl) (by kernel_rfl) rfl
            rcases h1 with rfl
            obtain ⟨v11, e11, h11⟩ := seen.dep 11 (d := 72) (by kernel_rfl) (by kernel_rfl) rfl
            rcases h11 with rfl
            refine does_plain rfl fun K Q' hK => ?_
            go_simp; exact hK _ _ (Grow.refl _) rfl
          -- 13: move t73
          · intro w1 hg Ar seen
            obtain ⟨v12, e12, h12⟩ := seen.dep 12 (d := 73) (by kernel_rfl) (by kernel_rfl) rfl
            rcases h12 with rfl
            refine does_plain rfl fun K Q' hK => ?_
            go_simp; exact hK _ _ (Grow.refl _) rfl
          -- 14: load 39 t13
          · intro w1 hg Ar seen
            obtain ⟨v13, e13, h13⟩ := seen.dep 13 (d := 74) (by kernel_rfl) (by kernel_rfl) rfl
            rcases h13 with rfl
            have s13 := seen.slot 13 (v := .pointer (some ⟨r, 0, none⟩)) (by kernel_rfl) rfl
            refine does_on rfl (by kernel_rfl) e13 fun K Q' hK => ?_
            clear e13
            refine wp_load_row 39 _ rfl (r) (by simp [Act.eval, s13]) _ _ _ _ ((hg.block _ (block_lt HB8.out)).trans HB8.out) Try.underlying39 rfl (by rw [objCells_size]; exact oSizeO) ?_
            exact hK _ _ (Grow.refl _) rfl
          -- 15: move t9
          · intro w1 hg Ar seen
            obtain ⟨v13, e13, h13⟩ := seen.dep 13 (d := 74) (by kernel_rfl) (by kernel_rfl) rfl
            rcases h13 with rfl
            have s9 := seen.slot 9 (v := .int .i64 T) (by kernel_rfl) rfl
            refine does_on rfl (by kernel_rfl) e13 fun K Q' hK => ?_
            clear e13
            go_simp; exact hK _ _ (Grow.refl _) rfl
          -- 16: call fn16<life.Move> [t75, t76] T[39, 2]
          · intro w1 hg Ar seen
            obtain ⟨v14, e14, h14⟩ := seen.dep 14 (d := 75) (by kernel_rfl) (by kernel_rfl) rfl
            rcases h14 with rfl
            obtain ⟨v15, e15, h15⟩ := seen.dep 15 (d := 76) (by kernel_rfl) (by kernel_rfl) rfl
            rcases h15 with rfl
            obtain ⟨v13, e13, h13⟩ := seen.dep 13 (d := 74) (by kernel_rfl) (by kernel_rfl) rfl
            rcases h13 with rfl
            refine does_on rfl (by kernel_rfl) e13 fun K Q' hK => ?_
            clear e13
            go_simp
            refine (move_any Q s7 T _ (HM8.out.below hg)).mono ?_
            rintro e u ⟨s9, rfl, hm, _, hb⟩
            rw [HQQ.out] at hm ⊢
            exact hK _ _ hb ⟨s9, rfl, hm⟩
          -- 17: load 39 t13
          · intro w1 hg Ar seen
            obtain ⟨v13, e13, h13⟩ := seen.dep 13 (d := 74) (by kernel_rfl) (by kernel_rfl) rfl
            rcases h13 with rfl
            have s13 := seen.slot 13 (v := .pointer (some ⟨r, 0, none⟩)) (by kernel_rfl) rfl
            refine does_on rfl (by kernel_rfl) e13 fun K Q' hK => ?_
            clear e13
            refine wp_load_row 39 _ rfl (r) (by simp [Act.eval, s13]) _ _ _ _ ((hg.block _ (block_lt HB8.out)).trans HB8.out) Try.underlying39 rfl (by rw [objCells_size]; exact oSizeO) ?_
            exact hK _ _ (Grow.refl _) rfl
          -- 18: call fn15<locksmithref10.Same> [t77, t78] T[39, 39]
          · intro w1 hg Ar seen
            obtain ⟨v16, e16, h16⟩ := seen.dep 16 (d := 77) (by kernel_rfl) (by kernel_rfl) rfl
            obtain ⟨v17, e17, h17⟩ := seen.dep 17 (d := 78) (by kernel_rfl) (by kernel_rfl) rfl
            rcases h17 with rfl
            obtain ⟨v13, e13, h13⟩ := seen.dep 13 (d := 74) (by kernel_rfl) (by kernel_rfl) rfl
            rcases h13 with rfl
            refine does_on rfl (by kernel_rfl) e13 fun K Q' hK => ?_
            clear e13
            obtain ⟨s9, rfl, hm⟩ := h16
            go_simp
            refine (same_any Q s9 s7 _ hm (HM8.out.below hg)).mono ?_
            rintro e u ⟨rfl, hb⟩
            exact hK _ _ hb rfl
          -- 19: pick t74 t79 false
          · intro w1 hg Ar seen
            obtain ⟨v13, e13, h13⟩ := seen.dep 13 (d := 74) (by kernel_rfl) (by kernel_rfl) rfl
            rcases h13 with rfl
            obtain ⟨v18, e18, h18⟩ := seen.dep 18 (d := 79) (by kernel_rfl) (by kernel_rfl) rfl
            rcases h18 with rfl
            refine does_plain rfl fun K Q' hK => ?_
            go_simp; exact hK _ _ (Grow.refl _) rfl
      intro w1 hg
      refine upon_w' (js := [0, 1, 2, 3, 4, 5, 6, 7, 8, 9, 10, 11, 12, 13, 14, 15, 16, 17, 18, 19]) (by rfl) ?_
      refine upon_c (x := some 61) (by kernel_rfl) rfl fun v0 h0 => ?_
      rcases h0 with rfl
      refine upon_c (x := some 62) (by kernel_rfl) rfl fun v1 h1 => ?_
      rcases h1 with rfl
      refine upon_c (x := some 63) (by kernel_rfl) rfl fun v2 h2 => ?_
      rcases h2 with rfl
      refine upon_c (x := some 64) (by kernel_rfl) rfl fun v3 h3 => ?_
      rcases h3 with rfl
      refine upon_c (x := some 65) (by kernel_rfl) rfl fun v4 h4 => ?_
      rcases h4 with rfl
      refine upon_c (x := some 66) (by kernel_rfl) rfl fun v5 h5 => ?_
      rcases h5 with rfl
      refine upon_c (x := some 67) (by kernel_rfl) rfl fun v6 h6 => ?_
      rcases h6 with rfl
      refine upon_c (x := some 68) (by kernel_rfl) rfl fun v7 h7 => ?_
      rcases h7 with rfl
      refine upon_c (x := some 69) (by kernel_rfl) rfl fun v8 h8 => ?_
      rcases h8 with rfl
      refine upon_c (x := some 70) (by kernel_rfl) rfl fun v9 h9 => ?_
      rcases h9 with rfl
      refine upon_c (x := some 71) (by kernel_rfl) rfl fun v10 h10 => ?_
      rcases h10 with rfl
      refine upon_c (x := some 72) (by kernel_rfl) rfl fun v11 h11 => ?_
      rcases h11 with rfl
      refine upon_c (x := some 73) (by kernel_rfl) rfl fun v12 h12 => ?_
      rcases h12 with rfl
      refine upon_c (x := some 74) (by kernel_rfl) rfl fun v13 h13 => ?_
      rcases h13 with rfl
      refine upon_c (x := some 75) (by kernel_rfl) rfl fun v14 h14 => ?_
      rcases h14 with rfl
      refine upon_c (x := some 76) (by kernel_rfl) rfl fun v15 h15 => ?_
      rcases h15 with rfl
      refine upon_c (x := some 77) (by kernel_rfl) rfl fun v16 h16 => ?_
      refine upon_c (x := some 78) (by kernel_rfl) rfl fun v17 h17 => ?_
      rcases h17 with rfl
      refine upon_c (x := some 79) (by kernel_rfl) rfl fun v18 h18 => ?_
      rcases h18 with rfl
      refine upon_c (x := some 80) (by kernel_rfl) rfl fun v19 h19 => ?_
      rcases h19 with rfl
      refine upon_n ?_
      go_wp2_with fail
      go_ret
      exact ⟨rfl, (HL8.out.below hg).bel⟩
    · have HPQ := hid (HST.out (by omega))
      refine wp_region_each 20 [.eq (.bool true), .eq (.bool true), .eq (.slice aS nS cS), .eq (.int .i64 (nS : Int)), .eq (.bool false), .eq (.bool false), .eq (.pointer (some ⟨r, 6, none⟩)), .eq (.int .i64 Q.st), .eq (.pointer (some ⟨p + 1, 6, none⟩)), .eq (.int .i64 Q.st), .eq (.bool true), .eq (.bool true), .eq (.bool true), .eq (.bool true), .eq (.agg (objCells Q s7)), .eq (.int .i64 T), stMoved Q, .eq (.agg (objCells Q s7)), .eq (.bool true), .eq (.bool true)] (by kernel_rfl) (by kernel_rfl) (by kernel_rfl) (by kernel_rfl) ?_ ?_
      · as_aux_lemma =>
          refine each_c (o' := _) ?_ (each_c (o' := _) ?_ (each_c (o' := _) ?_ (each_c (o' := _) ?_ (each_c (o' := _) ?_ (each_c (o' := _) ?_ (each_c (o' := _) ?_ (each_c (o' := _) ?_ (each_c (o' := _) ?_ (each_c (o' := _) ?_ (each_c (o' := _) ?_ (each_c (o' := _) ?_ (each_c (o' := _) ?_ (each_c (o' := _) ?_ (each_c (o' := _) ?_ (each_c (o' := _) ?_ (each_c (o' := _) ?_ (each_c (o' := _) ?_ (each_c (o' := _) ?_ (each_c (o' := _) ?_ (each_n))))))))))))))))))))
          -- 0: call fn7<locksmithlaw11.known> [] T[]
          · intro w1 hg Ar seen
            refine does_plain rfl fun K Q' hK => ?_
            go_simp
            refine (known11_any _).mono ?_
            rintro e u ⟨rfl, hb⟩
            exact hK _ _ hb rfl
          -- 1: move t61
          · intro w1 hg Ar seen
            obtain ⟨v0, e0, h0⟩ := seen.dep 0 (d := 61) (by kernel_rfl) (by kernel_rfl) rfl
            rcases h0 with rfl
            refine does_plain rfl fun K Q' hK => ?_
            go_simp; exact hK _ _ (Grow.refl _) rfl
          -- 2: move t2
          · intro w1 hg Ar seen
            obtain ⟨v1, e1, h1⟩ := seen.dep 1 (d := 62) (by kernel_rfl) (by kernel_rfl) rfl
            rcases h1 with rfl
            have s2 := seen.slot 2 (v := .slice aS nS cS) (by kernel_rfl) rfl
            refine does_on rfl (by kernel_rfl) e1 fun K Q' hK => ?_
            clear e1
            go_simp; exact hK _ _ (Grow.refl _) rfl
          -- 3: call len [t63] T[41]
          · intro w1 hg Ar seen
            obtain ⟨v2, e2, h2⟩ := seen.dep 2 (d := 63) (by kernel_rfl) (by kernel_rfl) rfl
            rcases h2 with rfl
            obtain ⟨v1, e1, h1⟩ := seen.dep 1 (d := 62) (by kernel_rfl) (by kernel_rfl) rfl
            rcases h1 with rfl
            refine does_on rfl (by kernel_rfl) e1 fun K Q' hK => ?_
            clear e1
            go_simp; exact hK _ _ (Grow.refl _) rfl
          -- 4: binOp BinOp.eql 3 t64 0:i64 3
          · intro w1 hg Ar seen
            obtain ⟨v3, e3, h3⟩ := seen.dep 3 (d := 64) (by kernel_rfl) (by kernel_rfl) rfl
            rcases h3 with rfl
            obtain ⟨v1, e1, h1⟩ := seen.dep 1 (d := 62) (by kernel_rfl) (by kernel_rfl) rfl
            rcases h1 with rfl
            refine does_on rfl (by kernel_rfl) e1 fun K Q' hK => ?_
            clear e1
            have hne : ((nS : Int) == 0) = false := by simp; omega
            go_simp; exact hK _ _ (Grow.refl _) rfl
          -- 5: move t65
          · intro w1 hg Ar seen
            obtain ⟨v4, e4, h4⟩ := seen.dep 4 (d := 65) (by kernel_rfl) (by kernel_rfl) rfl
            rcases h4 with rfl
            obtain ⟨v1, e1, h1⟩ := seen.dep 1 (d := 62) (by kernel_rfl) (by kernel_rfl) rfl
            rcases h1 with rfl
            refine does_on rfl (by kernel_rfl) e1 fun K Q' hK => ?_
            clear e1
            go_simp; exact hK _ _ (Grow.refl _) rfl
          -- 6: fieldAddr 39 t13 6
          · intro w1 hg Ar seen
            obtain ⟨v5, e5, h5⟩ := seen.dep 5 (d := 66) (by kernel_rfl) (by kernel_rfl) rfl
            rcases h5 with rfl
            have s13 := seen.slot 13 (v := .pointer (some ⟨r, 0, none⟩)) (by kernel_rfl) rfl
            refine does_on rfl (by kernel_rfl) e5 fun K Q' hK => ?_
            clear e5
            go_simp; exact hK _ _ (Grow.refl _) rfl
          -- 7: load 3 t67
          · intro w1 hg Ar seen
            obtain ⟨v6, e6, h6⟩ := seen.dep 6 (d := 67) (by kernel_rfl) (by kernel_rfl) rfl
            rcases h6 with rfl
            obtain ⟨v5, e5, h5⟩ := seen.dep 5 (d := 66) (by kernel_rfl) (by kernel_rfl) rfl
            rcases h5 with rfl
            refine does_on rfl (by kernel_rfl) e5 fun K Q' hK => ?_
            clear e5
            have hc := cell_of_block (j := 6) ((hg.block _ (block_lt HB8.out)).trans HB8.out) (oc6 Q s7)
            go_simp; exact hK _ _ (Grow.refl _) rfl
          -- 8: fieldAddr 39 t8 6
          · intro w1 hg Ar seen
            obtain ⟨v5, e5, h5⟩ := seen.dep 5 (d := 66) (by kernel_rfl) (by kernel_rfl) rfl
            rcases h5 with rfl
            have s8 := seen.slot 8 (v := .pointer (some ⟨p + 1, 0, none⟩)) (by kernel_rfl) rfl
            refine does_on rfl (by kernel_rfl) e5 fun K Q' hK => ?_
            clear e5
            go_simp; exact hK _ _ (Grow.refl _) rfl
          -- 9: load 3 t69
          · intro w1 hg Ar seen
            obtain ⟨v8, e8, h8⟩ := seen.dep 8 (d := 69) (by kernel_rfl) (by kernel_rfl) rfl
            rcases h8 with rfl
            obtain ⟨v5, e5, h5⟩ := seen.dep 5 (d := 66) (by kernel_rfl) (by kernel_rfl) rfl
            rcases h5 with rfl
            refine does_on rfl (by kernel_rfl) e5 fun K Q' hK => ?_
            clear e5
            have hc := cell_of_block (j := 6) ((hg.block _ (block_lt HL8.out.o2)).trans HL8.out.o2) (oc6 P s'); rw [HPQ.out] at hc
            go_simp; exact hK _ _ (Grow.refl _) rfl
          -- 10: binOp BinOp.eql 3 t68 t70 3
          · intro w1 hg Ar seen
            obtain ⟨v7, e7, h7⟩ := seen.dep 7 (d := 68) (by kernel_rfl) (by kernel_rfl) rfl
            rcases h7 with rfl
            obtain ⟨v9, e9, h9⟩ := seen.dep 9 (d := 70) (by kernel_rfl) (by kernel_rfl) rfl
            rcases h9 with rfl
            obtain ⟨v5, e5, h5⟩ := seen.dep 5 (d := 66) (by kernel_rfl) (by kernel_rfl) rfl
            rcases h5 with rfl
            refine does_on rfl (by kernel_rfl) e5 fun K Q' hK => ?_
            clear e5
            go_simp; exact hK _ _ (Grow.refl _) rfl
          -- 11: pick t66 true t71
          · intro w1 hg Ar seen
            obtain ⟨v5, e5, h5⟩ := seen.dep 5 (d := 66) (by kernel_rfl) (by kernel_rfl) rfl
            rcases h5 with rfl
            obtain ⟨v10, e10, h10⟩ := seen.dep 10 (d := 71) (by kernel_rfl) (by kernel_rfl) rfl
            rcases h10 with rfl
            obtain ⟨v1, e1, h1⟩ := seen.dep 1 (d := 62) (by kernel_rfl) (by kernel_rfl) rfl
            rcases h1 with rfl
            refine does_on rfl (by kernel_rfl) e1 fun K Q' hK => ?_
            clear e1
            go_simp; exact hK _ _ (Grow.refl _) rfl
          -- 12: pick t62 t72 false
          · intro w1 hg Ar seen
            obtain ⟨v1, e1, h1⟩ := seen.dep 1 (d := 62) (by kernel_rfl) (by kernel_rfl) rfl
            rcases h1 with rfl
            obtain ⟨v11, e11, h11⟩ := seen.dep 11 (d := 72) (by kernel_rfl) (by kernel_rfl) rfl
            rcases h11 with rfl
            refine does_plain rfl fun K Q' hK => ?_
            go_simp; exact hK _ _ (Grow.refl _) rfl
          -- 13: move t73
          · intro w1 hg Ar seen
            obtain ⟨v12, e12, h12⟩ := seen.dep 12 (d := 73) (by kernel_rfl) (by kernel_rfl) rfl
            rcases h12 with rfl
            refine does_plain rfl fun K Q' hK => ?_
            go_simp; exact hK _ _ (Grow.refl _) rfl
          -- 14: load 39 t13
          · intro w1 hg Ar seen
            obtain ⟨v13, e13, h13⟩ := seen.dep 13 (d := 74) (by kernel_rfl) (by kernel_rfl) rfl
            rcases h13 with rfl
            have s13 := seen.slot 13 (v := .pointer (some ⟨r, 0, none⟩)) (by kernel_rfl) rfl
            refine does_on rfl (by kernel_rfl) e13 fun K Q' hK => ?_
            clear e13
            refine wp_load_row 39 _ rfl (r) (by simp [Act.eval, s13]) _ _ _ _ ((hg.block _ (block_lt HB8.out)).trans HB8.out) Try.underlying39 rfl (by rw [objCells_size]; exact oSizeO) ?_
            exact hK _ _ (Grow.refl _) rfl
          -- 15: move t9
          · intro w1 hg Ar seen
            obtain ⟨v13, e13, h13⟩ := seen.dep 13 (d := 74) (by kernel_rfl) (by kernel_rfl) rfl
            rcases h13 with rfl
            have s9 := seen.slot 9 (v := .int .i64 T) (by kernel_rfl) rfl
            refine does_on rfl (by kernel_rfl) e13 fun K Q' hK => ?_
            clear e13
            go_simp; exact hK _ _ (Grow.refl _) rfl
          -- 16: call fn16<life.Move> [t75, t76] T[39, 2]
          · intro w1 hg Ar seen
            obtain ⟨v14, e14, h14⟩ := seen.dep 14 (d := 75) (by kernel_rfl) (by kernel_rfl) rfl
            rcases h14 with rfl
            obtain ⟨v15, e15, h15⟩ := seen.dep 15 (d := 76) (by kernel_rfl) (by kernel_rfl) rfl
            rcases h15 with rfl
            obtain ⟨v13, e13, h13⟩ := seen.dep 13 (d := 74) (by kernel_rfl) (by kernel_rfl) rfl
            rcases h13 with rfl
            refine does_on rfl (by kernel_rfl) e13 fun K Q' hK => ?_
            clear e13
            go_simp
            refine (move_any Q s7 T _ (HM8.out.below hg)).mono ?_
            rintro e u ⟨s9, rfl, hm, _, hb⟩
            rw [HQQ.out] at hm ⊢
            exact hK _ _ hb ⟨s9, rfl, hm⟩
          -- 17: load 39 t13
          · intro w1 hg Ar seen
            obtain ⟨v13, e13, h13⟩ := seen.dep 13 (d := 74) (by kernel_rfl) (by kernel_rfl) rfl
            rcases h13 with rfl
            have s13 := seen.slot 13 (v := .pointer (some ⟨r, 0, none⟩)) (by kernel_rfl) rfl
            refine does_on rfl (by kernel_rfl) e13 fun K Q' hK => ?_
            clear e13
            refine wp_load_row 39 _ rfl (r) (by simp [Act.eval, s13]) _ _ _ _ ((hg.block _ (block_lt HB8.out)).trans HB8.out) Try.underlying39 rfl (by rw [objCells_size]; exact oSizeO) ?_
            exact hK _ _ (Grow.refl _) rfl
          -- 18: call fn15<locksmithref10.Same> [t77, t78] T[39, 39]
          · intro w1 hg Ar seen
            obtain ⟨v16, e16, h16⟩ := seen.dep 16 (d := 77) (by kernel_rfl) (by kernel_rfl) rfl
            obtain ⟨v17, e17, h17⟩ := seen.dep 17 (d := 78) (by kernel_rfl) (by kernel_rfl) rfl
            rcases h17 with rfl
            obtain ⟨v13, e13, h13⟩ := seen.dep 13 (d := 74) (by kernel_rfl) (by kernel_rfl) rfl
            rcases h13 with rfl
            refine does_on rfl (by kernel_rfl) e13 fun K Q' hK => ?_
            clear e13
            obtain ⟨s9, rfl, hm⟩ := h16
            go_simp
            refine (same_any Q s9 s7 _ hm (HM8.out.below hg)).mono ?_
            rintro e u ⟨rfl, hb⟩
            exact hK _ _ hb rfl
          -- 19: pick t74 t79 false
          · intro w1 hg Ar seen
            obtain ⟨v13, e13, h13⟩ := seen.dep 13 (d := 74) (by kernel_rfl) (by kernel_rfl) rfl
            rcases h13 with rfl
            obtain ⟨v18, e18, h18⟩ := seen.dep 18 (d := 79) (by kernel_rfl) (by kernel_rfl) rfl
            rcases h18 with rfl
            refine does_plain rfl fun K Q' hK => ?_
            go_simp; exact hK _ _ (Grow.refl _) rfl
      intro w1 hg
      refine upon_w' (js := [0, 1, 2, 3, 4, 5, 6, 7, 8, 9, 10, 11, 12, 13, 14, 15, 16, 17, 18, 19]) (by rfl) ?_
      refine upon_c (x := some 61) (by kernel_rfl) rfl fun v0 h0 => ?_
      rcases h0 with rfl
      refine upon_c (x := some 62) (by kernel_rfl) rfl fun v1 h1 => ?_
      rcases h1 with rfl
      refine upon_c (x := some 63) (by kernel_rfl) rfl fun v2 h2 => ?_
      rcases h2 with rfl
      refine upon_c (x := some 64) (by kernel_rfl) rfl fun v3 h3 => ?_
      rcases h3 with rfl
      refine upon_c (x := some 65) (by kernel_rfl) rfl fun v4 h4 => ?_
      rcases h4 with rfl
      refine upon_c (x := some 66) (by kernel_rfl) rfl fun v5 h5 => ?_
      rcases h5 with rfl
      refine upon_c (x := some 67) (by kernel_rfl) rfl fun v6 h6 => ?_
      rcases h6 with rfl
      refine upon_c (x := some 68) (by kernel_rfl) rfl fun v7 h7 => ?_
      rcases h7 with rfl
      refine upon_c (x := some 69) (by kernel_rfl) rfl fun v8 h8 => ?_
      rcases h8 with rfl
      refine upon_c (x := some 70) (by kernel_rfl) rfl fun v9 h9 => ?_
      rcases h9 with rfl
      refine upon_c (x := some 71) (by kernel_rfl) rfl fun v10 h10 => ?_
      rcases h10 with rfl
      refine upon_c (x := some 72) (by kernel_rfl) rfl fun v11 h11 => ?_
      rcases h11 with rfl
      refine upon_c (x := some 73) (by kernel_rfl) rfl fun v12 h12 => ?_
      rcases h12 with rfl
      refine upon_c (x := some 74) (by kernel_rfl) rfl fun v13 h13 => ?_
      rcases h13 with rfl
      refine upon_c (x := some 75) (by kernel_rfl) rfl fun v14 h14 => ?_
      rcases h14 with rfl
      refine upon_c (x := some 76) (by kernel_rfl) rfl fun v15 h15 => ?_
      rcases h15 with rfl
      refine upon_c (x := some 77) (by kernel_rfl) rfl fun v16 h16 => ?_
      refine upon_c (x := some 78) (by kernel_rfl) rfl fun v17 h17 => ?_
      rcases h17 with rfl
      refine upon_c (x := some 79) (by kernel_rfl) rfl fun v18 h18 => ?_
      rcases h18 with rfl
      refine upon_c (x := some 80) (by kernel_rfl) rfl fun v19 h19 => ?_
      rcases h19 with rfl
      refine upon_n ?_
      go_wp2_with fail
      go_ret
      exact ⟨rfl, (HL8.out.below hg).bel⟩
end Go.Proofs.Ytkmagdhbbhemhaa
