/- locksmithref10.Same: the walk. -/
import Derived.Test.YtdlkobmlnpijgaaDoorSame
namespace Go.Proofs.YtdlkobmlnpijgaaDoor
open Go.RowKit
set_option linter.unusedVariables false
set_option linter.unusedSimpArgs false
set_option maxRecDepth 100000
set_option maxHeartbeats 8000000

theorem RdC.toB {w : World} {a : Option Addr} {n : Nat} {l : List UInt8} (h : RdC w a n (l.map B8)) : RdB w a n l := by
  have hl : l.length = n := by simpa using h.len
  refine ⟨hl, fun j hj => ?_⟩
  obtain ⟨b, off, ha, hc⟩ := h.cell j hj
  refine ⟨b, off, ha, fun i hi => hc i _ ?_⟩
  rw [List.getElem?_map, List.getD_eq_getElem?_getD, List.getElem?_eq_getElem (by omega)]; rfl
theorem SlR.str {P : Program} {w : World} {s : Sl} {l : List UInt8} (h : SlR w s 1 (l.map B8)) (src dst e : TypeId) (hs : P.underlying src = some (.slice e)) (he : P.underlying e = some (.int .u8)) (hd : P.underlying dst = some .string) :
    (convert src dst (.slice s.a s.n s.c)).run P w = .ok (.string ⟨l.toArray⟩) w :=
  run_bytes_str (RdC.toB (by have := h.rd; rwa [Nat.mul_one] at this)) s.c src dst e hs he hd
/-- one string of a slice -/
theorem SlR.one {w : World} {s : Sl} {l : List ByteArray} (h : SlR w s 1 (l.map Value.string)) {k : Nat} (hk : k < s.n) : ∃ b off x, s.a = some ⟨b, off, none⟩ ∧ l[k]? = some x ∧ w.cell? ⟨b, off + k, none⟩ = some (.string x) := by
  have hl : l.length = s.n := by simpa using h.rd.len
  obtain ⟨b, off, ha, hc⟩ := h.rd.cell k (by omega)
  refine ⟨b, off, l[k]'(by omega), ha, List.getElem?_eq_getElem _, hc k _ ?_⟩
  rw [List.getElem?_map, List.getElem?_eq_getElem (by omega)]; rfl
theorem flat_get {α : Type} (f g : α → Value) (l : List α) (k : Nat) (x : α) (h : l[k]? = some x) : (l.flatMap fun x => [f x, g x])[k * 2]? = some (f x) ∧ (l.flatMap fun x => [f x, g x])[k * 2 + 1]? = some (g x) := by
  induction l generalizing k with
  | nil => simp at h
  | cons y l ih =>
    cases k with
    | zero => simp at h; subst h; exact ⟨rfl, rfl⟩
    | succ k =>
      simp at h
      obtain ⟨h1, h2⟩ := ih k h
      simp only [List.flatMap_cons, List.cons_append, List.nil_append]
      exact ⟨by rw [show (k + 1) * 2 = k * 2 + 2 by omega]; exact h1, by rw [show (k + 1) * 2 + 1 = k * 2 + 1 + 2 by omega]; exact h2⟩
theorem flat_len {α : Type} (f g : α → Value) (l : List α) : (l.flatMap fun x => [f x, g x]).length = l.length * 2 := by
  induction l with
  | nil => rfl
  | cons x l ih => simp only [List.flatMap_cons, List.length_append, ih, List.length_cons, List.length_nil]; omega
/-- one pair of a slice -/
theorem SlR.pair {α : Type} {f g : α → Value} {w : World} {s : Sl} {l : List α} (h : SlR w s 2 (l.flatMap fun x => [f x, g x])) {k : Nat} (hk : k < s.n) : ∃ b off x, s.a = some ⟨b, off, none⟩ ∧ l[k]? = some x ∧ w.cell? ⟨b, off + k * 2, none⟩ = some (f x) ∧ w.cell? ⟨b, off + k * 2 + 1, none⟩ = some (g x) := by
  have hl : l.length = s.n := by have := h.rd.len; rw [flat_len] at this; omega
  obtain ⟨b, off, ha, hc⟩ := h.rd.cell (k * 2) (by omega)
  obtain ⟨x, hx⟩ : ∃ x, l[k]? = some x := ⟨l[k]'(by omega), List.getElem?_eq_getElem _⟩
  obtain ⟨h1, h2⟩ := flat_get f g l k x hx
  exact ⟨b, off, x, ha, hx, hc _ _ h1, by have := hc _ _ h2; rwa [← Nat.add_assoc] at this⟩
theorem SlR.len1 {w : World} {s : Sl} {xs : List Value} (h : SlR w s 1 xs) : s.n = xs.length := by have := h.rd.len; omega
theorem SlR.len2 {w : World} {s : Sl} {xs : List Value} (h : SlR w s 2 xs) : s.n * 2 = xs.length := by have := h.rd.len; omega
theorem SlR.drewN {w : World} {s : Sl} {size : Nat} {xs : List Value} (h : SlR w s size xs) (n : Nat) : SlR (w.drewN n) s size xs := h.below ⟨rfl, rfl, rfl, Nat.le_refl _, fun _ _ => rfl⟩

theorem eqLink (d : Nat) (z : Int) (x : ByteArray) (w : World) : (Op.equalIn (d + 2) 56 (.agg #[.int .i64 z, .string x]) (.agg #[.int .i64 z, .string x])).run Tryd.prog w = .ok true w := by
  go_simp
theorem eqCust (d : Nat) (x y : ByteArray) (w : World) : (Op.equalIn (d + 2) 58 (.agg #[.string x, .string y]) (.agg #[.string x, .string y])).run Tryd.prog w = .ok true w := by
  go_simp
theorem oSizeD : (Tryd.prog.info? 28).map (·.size) = some 20 := by kernel_rfl
theorem oSizeL : (Tryd.prog.info? 33).map (·.size) = some 4 := by kernel_rfl
theorem same_any (O : ObjD) (s s2 : ObjV) (w : World) (h : ObjM w O s) (h2 : ObjM w O s2) :
    Calls Tryd.prog 23 #[.agg (objCells O s), .agg (objCells O s2)] w fun e w' => e = .returned (.bool true) ∧ Below w.heap.size w w' := by
  generalize hbe : w.heap.size = b
  have HBE := hid hbe; clear hbe
  have hb1 : ((w.alloc (.cells (objCells O s) 35)).alloc (.cells (objCells O s2) 35)).heap[w.heap.size]? = some (.cells (objCells O s) 35 (0, 0)) := heap_alloc2_old _ _ _
  have hb2 : ((w.alloc (.cells (objCells O s) 35)).alloc (.cells (objCells O s2) 35)).heap[w.heap.size + 1]? = some (.cells (objCells O s2) 35 (0, 0)) := heap_alloc2_new _ _ _
  have hb3 : Below w.heap.size w ((w.alloc (.cells (objCells O s) 35)).alloc (.cells (objCells O s2) 35)) := ((Below.refl _ _).alloc (Nat.le_refl _) _).alloc (by simp) _
  have hm := h.below hb3
  have hm2 := h2.below hb3
  rw [HBE.out] at hb1 hb2 hb3
  have H1 := hid hb1; have H2 := hid hb2; have H3 := hid hb3; have HM := hid hm; have HM2 := hid hm2
  clear hb1 hb2 hb3 hm hm2 h h2
  go_enter Tryd.func23, Tryd.ntmps23
  go_upto_region 1 with (fail)
  rw [HBE.out]
  generalize (w.alloc (.cells (objCells O s) 35)).alloc (.cells (objCells O s2) 35) = W at *
  have a0 := cell_of_block H1.out (oc0 O s)
  have a1 := cell_of_block H1.out (oc1 O s)
  have a2 := cell_of_block H1.out (oc2 O s)
  have a3 := cell_of_block H1.out (oc3 O s)
  have a4 := cell_of_block H1.out (oc4 O s)
  have a5 := cell_of_block H1.out (oc5 O s)
  have a6 := cell_of_block H1.out (oc6 O s)
  have a27 := cell_of_block H1.out (oc27 O s)
  have a28 := cell_of_block H1.out (oc28 O s)
  have a29 := cell_of_block H1.out (oc29 O s)
  have a30 := cell_of_block H1.out (oc30 O s)
  have a31 := cell_of_block H1.out (oc31 O s)
  have a36 := cell_of_block H1.out (oc36 O s)
  have aD := hid (date_range H1.out)
  have aL := hid (lim_range H1.out)
  have aS := SlR.str (P := Tryd.prog) HM.out.mat 22 9 5 Tryd.underlying22 Tryd.underlying5 Tryd.underlying9
  have b0 := cell_of_block H2.out (oc0 O s2)
  have b1 := cell_of_block H2.out (oc1 O s2)
  have b2 := cell_of_block H2.out (oc2 O s2)
  have b3 := cell_of_block H2.out (oc3 O s2)
  have b4 := cell_of_block H2.out (oc4 O s2)
  have b5 := cell_of_block H2.out (oc5 O s2)
  have b6 := cell_of_block H2.out (oc6 O s2)
  have b27 := cell_of_block H2.out (oc27 O s2)
  have b28 := cell_of_block H2.out (oc28 O s2)
  have b29 := cell_of_block H2.out (oc29 O s2)
  have b30 := cell_of_block H2.out (oc30 O s2)
  have b31 := cell_of_block H2.out (oc31 O s2)
  have b36 := cell_of_block H2.out (oc36 O s2)
  have bD := hid (date_range H2.out)
  have bL := hid (lim_range H2.out)
  have bS := SlR.str (P := Tryd.prog) HM2.out.mat 22 9 5 Tryd.underlying22 Tryd.underlying5 Tryd.underlying9
  have eD := fun w => eqDates O 9997 w
  have eL := fun w => eqLim O 9998 w
  have n1 : s.names.n = s2.names.n := HM.out.names.len1.trans HM2.out.names.len1.symm
  have n2 : s.links.n = s2.links.n := by have := HM.out.links.len2; have := HM2.out.links.len2; omega
  have n3 : s.custom.n = s2.custom.n := by have := HM.out.custom.len2; have := HM2.out.custom.len2; omega
  generalize O.id = oid at *
  generalize O.msg = omsg at *
  generalize (⟨O.mat.toArray⟩ : ByteArray) = omat at *
  go_upto_if 118 with (first
    | (refine wpList_load_mid_on rfl 28 _ rfl b 7 rfl (dateL O) _ aD.out Tryd.underlying28 rfl oSizeD ?_)
    | (refine wpList_load_mid_on rfl 28 _ rfl (b + 1) 7 rfl (dateL O) _ bD.out Tryd.underlying28 rfl oSizeD ?_)
    | (refine wpList_load_mid_on rfl 33 _ rfl b 32 rfl (limL O) _ aL.out Tryd.underlying33 rfl oSizeL ?_)
    | (refine wpList_load_mid_on rfl 33 _ rfl (b + 1) 32 rfl (limL O) _ bL.out Tryd.underlying33 rfl oSizeL ?_))
  go_cut [4] (fun s4 wx => s4 = .bool false ∧ Below W.heap.size W wx)
  case first =>
    go_wp2_with fail
    go_meet
    exact ⟨rfl, Below.refl _ _⟩
  case rest =>
    obtain ⟨rfl, hg0⟩ := hcut
    have HG0 := hid hg0
    clear hg0 a0 a1 a2 a3 a4 a5 a6 a27 a28 a29 a30 a31 a36 b0 b1 b2 b3 b4 b5 b6 b27 b28 b29 b30 b31 b36 aD aL aS bD bL bS eD eL
    have N1 := hid n1; have N2 := hid n2; have N3 := hid n3
    clear n1 n2 n3
    go_upto_block 0 with (fail)
    go_cut [5] (fun _ wx => Below W.heap.size W wx)
    case first =>
      go_wp2_with fail
      go_loopw [5] (fun x wr => ∃ k : Nat, k ≤ s.names.n ∧ x = .int .i64 k ∧ Below W.heap.size W wr) (fun x _ => s.names.n - (intOf x).toNat)
      case atStart => exact ⟨0, Nat.zero_le _, rfl, HG0.out⟩
      case round =>
        obtain ⟨k, hk, rfl, hgr⟩ := hrel
        have HG := hid hgr; clear hgr
        have SM := hid HM.out.names.sm
        have hsm : s.names.n ≤ 140737488355328 := SM.out
        have ca := cell_of_block ((HG.out.block _ (block_lt H1.out)).trans H1.out) (oc29 O s)
        have cb := cell_of_block ((HG.out.block _ (block_lt H2.out)).trans H2.out) (oc29 O s2)
        by_cases hlt : k < s.names.n
        · obtain ⟨ba, oa, x, ha, hx, hc1⟩ := (HM.out.names.below HG.out).one hlt
          obtain ⟨bb, ob, y, hb', hy, hd1⟩ := (HM2.out.names.below HG.out).one (N1.out ▸ hlt)
          obtain rfl : x = y := Option.some.inj (hx.symm.trans hy)
          rw [ha] at ca; rw [hb', ← N1.out] at cb
          have CA := hid ca; have CB := hid cb; have C1 := hid hc1; have D1 := hid hd1
          clear ca cb hc1 hd1 ha hb' hx hy
          have ca' := CA.out
          go_upto_region 6 with (fail)
          clear ca'
          refine wp_region_each 11 [.eq (.pointer (some ⟨b, 29, none⟩)), .eq (.slice (some ⟨ba, oa, none⟩) s.names.n s.names.c), .eq (.int .i64 (k : Int)), .eq (.pointer (some ⟨ba, oa + k, none⟩)), .eq (.string x), .eq (.pointer (some ⟨b + 1, 29, none⟩)), .eq (.slice (some ⟨bb, ob, none⟩) s.names.n s2.names.c), .eq (.int .i64 (k : Int)), .eq (.pointer (some ⟨bb, ob + k, none⟩)), .eq (.string x), .eq (.bool false)] (by kernel_rfl) (by kernel_rfl) (by kernel_rfl) (by kernel_rfl) ?_ ?_
          · as_aux_lemma =>
              refine each_5 ?_ ?_ ?_ ?_ ?_ (each_5 ?_ ?_ ?_ ?_ ?_ (each_c ?_ (each_n)))
              · intro w1 hg Ar seen
                have s2 := seen.sl 2 (.pointer (some ⟨b, 0, none⟩))
                refine does_plain rfl fun K Q' hK => ?_
                go_simp; exact hK _ _ (Grow.refl _) rfl
              · intro w1 hg Ar seen
                have e0 := seen.de 0 126
                refine does_plain rfl fun K Q' hK => ?_
                have hc := cell_later hg CA.out
                go_simp; exact hK _ _ (Grow.refl _) rfl
              · intro w1 hg Ar seen
                have s5 := seen.sl 5 (.int .i64 (k : Int))
                refine does_plain rfl fun K Q' hK => ?_
                go_simp; exact hK _ _ (Grow.refl _) rfl
              · intro w1 hg Ar seen
                have e1 := seen.de 1 127
                have e2 := seen.de 2 128
                refine does_plain rfl fun K Q' hK => ?_
                go_simp; exact hK _ _ (Grow.refl _) rfl
              · intro w1 hg Ar seen
                have e3 := seen.de 3 129
                refine does_plain rfl fun K Q' hK => ?_
                have hc := cell_later hg C1.out
                go_simp; exact hK _ _ (Grow.refl _) rfl
              · intro w1 hg Ar seen
                have s3 := seen.sl 3 (.pointer (some ⟨b + 1, 0, none⟩))
                refine does_plain rfl fun K Q' hK => ?_
                go_simp; exact hK _ _ (Grow.refl _) rfl
              · intro w1 hg Ar seen
                have e5 := seen.de 5 131
                refine does_plain rfl fun K Q' hK => ?_
                have hc := cell_later hg CB.out
                go_simp; exact hK _ _ (Grow.refl _) rfl
              · intro w1 hg Ar seen
                have s5 := seen.sl 5 (.int .i64 (k : Int))
                refine does_plain rfl fun K Q' hK => ?_
                go_simp; exact hK _ _ (Grow.refl _) rfl
              · intro w1 hg Ar seen
                have e6 := seen.de 6 132
                have e7 := seen.de 7 133
                refine does_plain rfl fun K Q' hK => ?_
                go_simp; exact hK _ _ (Grow.refl _) rfl
              · intro w1 hg Ar seen
                have e8 := seen.de 8 134
                refine does_plain rfl fun K Q' hK => ?_
                have hc := cell_later hg D1.out
                go_simp; exact hK _ _ (Grow.refl _) rfl
              · intro w1 hg Ar seen
                have e4 := seen.de 4 130
                have e9 := seen.de 9 135
                refine does_plain rfl fun K Q' hK => ?_
                go_simp; exact hK _ _ (Grow.refl _) rfl
          intro w1 hg
          refine upon_w' (js := [0, 1, 2, 3, 4, 5, 6, 7, 8, 9, 10]) (by rfl) ?_
          refine upon_e (some 126) (upon_e (some 127) (upon_e (some 128) (upon_e (some 129) (upon_e (some 130) (upon_e (some 131) (upon_e (some 132) (upon_e (some 133) (upon_e (some 134) (upon_e (some 135) (upon_e (some 136) (upon_n ?_)))))))))))
          go_simp
          go_wp2_with fail
          go_roundw
          case rel => first | exact ⟨k + 1, by omega, by go_num, HG.out.trans (Below.mono hg HG.out.size)⟩ | ((repeat apply Exists.intro); exact ⟨⟨k + 1, by omega, by go_num, HG.out.trans (Below.mono hg HG.out.size)⟩, rfl⟩)
          case measure => simp [intOf]; omega
        · obtain rfl : k = s.names.n := by omega
          go_wp2_with fail
          go_meet
          exact HG.out
    case rest =>
      have HG1 := hid hcut; clear hcut HG0
      go_upto_block 2 with (fail)
      go_cut [6] (fun _ wx => Below W.heap.size W wx)
      case first =>
        go_wp2_with fail
        go_loopw [6] (fun x wr => ∃ k : Nat, k ≤ s.links.n ∧ x = .int .i64 k ∧ Below W.heap.size W wr) (fun x _ => s.links.n - (intOf x).toNat)
        case atStart => exact ⟨0, Nat.zero_le _, rfl, HG1.out⟩
        case round =>
          obtain ⟨k, hk, rfl, hgr⟩ := hrel
          have HG := hid hgr; clear hgr
          have SM := hid HM.out.links.sm
          have hsm : s.links.n ≤ 140737488355328 := SM.out
          have ca := cell_of_block ((HG.out.block _ (block_lt H1.out)).trans H1.out) (oc30 O s)
          have cb := cell_of_block ((HG.out.block _ (block_lt H2.out)).trans H2.out) (oc30 O s2)
          by_cases hlt : k < s.links.n
          · obtain ⟨ba, oa, x, ha, hx, hc1, hc2⟩ := (HM.out.links.below HG.out).pair hlt
            obtain ⟨bb, ob, y, hb', hy, hd1, hd2⟩ := (HM2.out.links.below HG.out).pair (N2.out ▸ hlt)
            obtain rfl : x = y := Option.some.inj (hx.symm.trans hy)
            rw [ha] at ca; rw [hb', ← N2.out] at cb
            have CA := hid ca; have CB := hid cb; have C1 := hid hc1; have D1 := hid hd1
            have C2 := hid hc2; have D2 := hid hd2
            clear ca cb hc1 hd1 ha hb' hx hy hc2 hd2
            have ca' := CA.out
            go_upto_region 11 with (fail)
            clear ca'
            refine wp_region_each 11 [.eq (.pointer (some ⟨b, 30, none⟩)), .eq (.slice (some ⟨ba, oa, none⟩) s.links.n s.links.c), .eq (.int .i64 (k : Int)), .eq (.pointer (some ⟨ba, oa + k * 2, none⟩)), .eq (.agg #[.int .i64 x.1, .string x.2]), .eq (.pointer (some ⟨b + 1, 30, none⟩)), .eq (.slice (some ⟨bb, ob, none⟩) s.links.n s2.links.c), .eq (.int .i64 (k : Int)), .eq (.pointer (some ⟨bb, ob + k * 2, none⟩)), .eq (.agg #[.int .i64 x.1, .string x.2]), .eq (.bool false)] (by kernel_rfl) (by kernel_rfl) (by kernel_rfl) (by kernel_rfl) ?_ ?_
            · as_aux_lemma =>
                refine each_5 ?_ ?_ ?_ ?_ ?_ (each_5 ?_ ?_ ?_ ?_ ?_ (each_c ?_ (each_n)))
                · intro w1 hg Ar seen
                  have s2 := seen.sl 2 (.pointer (some ⟨b, 0, none⟩))
                  refine does_plain rfl fun K Q' hK => ?_
                  go_simp; exact hK _ _ (Grow.refl _) rfl
                · intro w1 hg Ar seen
                  have e0 := seen.de 0 144
                  refine does_plain rfl fun K Q' hK => ?_
                  have hc := cell_later hg CA.out
                  go_simp; exact hK _ _ (Grow.refl _) rfl
                · intro w1 hg Ar seen
                  have s6 := seen.sl 6 (.int .i64 (k : Int))
                  refine does_plain rfl fun K Q' hK => ?_
                  go_simp; exact hK _ _ (Grow.refl _) rfl
                · intro w1 hg Ar seen
                  have e1 := seen.de 1 145
                  have e2 := seen.de 2 146
                  refine does_plain rfl fun K Q' hK => ?_
                  go_simp; exact hK _ _ (Grow.refl _) rfl
                · intro w1 hg Ar seen
                  have e3 := seen.de 3 147
                  refine does_plain rfl fun K Q' hK => ?_
                  have hc := cell_later hg C1.out; have hc2 := cell_later hg C2.out
                  go_simp; exact hK _ _ (Grow.refl _) rfl
                · intro w1 hg Ar seen
                  have s3 := seen.sl 3 (.pointer (some ⟨b + 1, 0, none⟩))
                  refine does_plain rfl fun K Q' hK => ?_
                  go_simp; exact hK _ _ (Grow.refl _) rfl
                · intro w1 hg Ar seen
                  have e5 := seen.de 5 149
                  refine does_plain rfl fun K Q' hK => ?_
                  have hc := cell_later hg CB.out
                  go_simp; exact hK _ _ (Grow.refl _) rfl
                · intro w1 hg Ar seen
                  have s6 := seen.sl 6 (.int .i64 (k : Int))
                  refine does_plain rfl fun K Q' hK => ?_
                  go_simp; exact hK _ _ (Grow.refl _) rfl
                · intro w1 hg Ar seen
                  have e6 := seen.de 6 150
                  have e7 := seen.de 7 151
                  refine does_plain rfl fun K Q' hK => ?_
                  go_simp; exact hK _ _ (Grow.refl _) rfl
                · intro w1 hg Ar seen
                  have e8 := seen.de 8 152
                  refine does_plain rfl fun K Q' hK => ?_
                  have hc := cell_later hg D1.out; have hc2 := cell_later hg D2.out
                  go_simp; exact hK _ _ (Grow.refl _) rfl
                · intro w1 hg Ar seen
                  have e4 := seen.de 4 148
                  have e9 := seen.de 9 153
                  refine does_plain rfl fun K Q' hK => ?_
                  have he := fun w => eqLink 9998 x.1 x.2 w
                  go_simp; exact hK _ _ (Grow.refl _) rfl
            intro w1 hg
            refine upon_w' (js := [0, 1, 2, 3, 4, 5, 6, 7, 8, 9, 10]) (by rfl) ?_
            refine upon_e (some 144) (upon_e (some 145) (upon_e (some 146) (upon_e (some 147) (upon_e (some 148) (upon_e (some 149) (upon_e (some 150) (upon_e (some 151) (upon_e (some 152) (upon_e (some 153) (upon_e (some 154) (upon_n ?_)))))))))))
            go_simp
            go_wp2_with fail
            go_roundw
            case rel => first | exact ⟨k + 1, by omega, by go_num, HG.out.trans (Below.mono hg HG.out.size)⟩ | ((repeat apply Exists.intro); exact ⟨⟨k + 1, by omega, by go_num, HG.out.trans (Below.mono hg HG.out.size)⟩, rfl⟩)
            case measure => simp [intOf]; omega
          · obtain rfl : k = s.links.n := by omega
            go_wp2_with fail
            go_meet
            exact HG.out
      case rest =>
        have HG2 := hid hcut; clear hcut HG1
        go_upto_block 4 with (fail)
        go_cut [7] (fun _ wx => Below W.heap.size W wx)
        case first =>
          go_wp2_with fail
          go_loopw [7] (fun x wr => ∃ k : Nat, k ≤ s.custom.n ∧ x = .int .i64 k ∧ Below W.heap.size W wr) (fun x _ => s.custom.n - (intOf x).toNat)
          case atStart => exact ⟨0, Nat.zero_le _, rfl, HG2.out⟩
          case round =>
            obtain ⟨k, hk, rfl, hgr⟩ := hrel
            have HG := hid hgr; clear hgr
            have SM := hid HM.out.custom.sm
            have hsm : s.custom.n ≤ 140737488355328 := SM.out
            have ca := cell_of_block ((HG.out.block _ (block_lt H1.out)).trans H1.out) (oc31 O s)
            have cb := cell_of_block ((HG.out.block _ (block_lt H2.out)).trans H2.out) (oc31 O s2)
            by_cases hlt : k < s.custom.n
            · obtain ⟨ba, oa, x, ha, hx, hc1, hc2⟩ := (HM.out.custom.below HG.out).pair hlt
              obtain ⟨bb, ob, y, hb', hy, hd1, hd2⟩ := (HM2.out.custom.below HG.out).pair (N3.out ▸ hlt)
              obtain rfl : x = y := Option.some.inj (hx.symm.trans hy)
              rw [ha] at ca; rw [hb', ← N3.out] at cb
              have CA := hid ca; have CB := hid cb; have C1 := hid hc1; have D1 := hid hd1
              have C2 := hid hc2; have D2 := hid hd2
              clear ca cb hc1 hd1 ha hb' hx hy hc2 hd2
              have ca' := CA.out
              go_upto_region 16 with (fail)
              clear ca'
              refine wp_region_each 11 [.eq (.pointer (some ⟨b, 31, none⟩)), .eq (.slice (some ⟨ba, oa, none⟩) s.custom.n s.custom.c), .eq (.int .i64 (k : Int)), .eq (.pointer (some ⟨ba, oa + k * 2, none⟩)), .eq (.agg #[.string x.1, .string x.2]), .eq (.pointer (some ⟨b + 1, 31, none⟩)), .eq (.slice (some ⟨bb, ob, none⟩) s.custom.n s2.custom.c), .eq (.int .i64 (k : Int)), .eq (.pointer (some ⟨bb, ob + k * 2, none⟩)), .eq (.agg #[.string x.1, .string x.2]), .eq (.bool false)] (by kernel_rfl) (by kernel_rfl) (by kernel_rfl) (by kernel_rfl) ?_ ?_
              · as_aux_lemma =>
                  refine each_5 ?_ ?_ ?_ ?_ ?_ (each_5 ?_ ?_ ?_ ?_ ?_ (each_c ?_ (each_n)))
                  · intro w1 hg Ar seen
                    have s2 := seen.sl 2 (.pointer (some ⟨b, 0, none⟩))
                    refine does_plain rfl fun K Q' hK => ?_
                    go_simp; exact hK _ _ (Grow.refl _) rfl
                  · intro w1 hg Ar seen
                    have e0 := seen.de 0 162
                    refine does_plain rfl fun K Q' hK => ?_
                    have hc := cell_later hg CA.out
                    go_simp; exact hK _ _ (Grow.refl _) rfl
                  · intro w1 hg Ar seen
                    have s7 := seen.sl 7 (.int .i64 (k : Int))
                    refine does_plain rfl fun K Q' hK => ?_
                    go_simp; exact hK _ _ (Grow.refl _) rfl
                  · intro w1 hg Ar seen
                    have e1 := seen.de 1 163
                    have e2 := seen.de 2 164
                    refine does_plain rfl fun K Q' hK => ?_
                    go_simp; exact hK _ _ (Grow.refl _) rfl
                  · intro w1 hg Ar seen
                    have e3 := seen.de 3 165
                    refine does_plain rfl fun K Q' hK => ?_
                    have hc := cell_later hg C1.out; have hc2 := cell_later hg C2.out
                    go_simp; exact hK _ _ (Grow.refl _) rfl
                  · intro w1 hg Ar seen
                    have s3 := seen.sl 3 (.pointer (some ⟨b + 1, 0, none⟩))
                    refine does_plain rfl fun K Q' hK => ?_
                    go_simp; exact hK _ _ (Grow.refl _) rfl
                  · intro w1 hg Ar seen
                    have e5 := seen.de 5 167
                    refine does_plain rfl fun K Q' hK => ?_
                    have hc := cell_later hg CB.out
                    go_simp; exact hK _ _ (Grow.refl _) rfl
                  · intro w1 hg Ar seen
                    have s7 := seen.sl 7 (.int .i64 (k : Int))
                    refine does_plain rfl fun K Q' hK => ?_
                    go_simp; exact hK _ _ (Grow.refl _) rfl
                  · intro w1 hg Ar seen
                    have e6 := seen.de 6 168
                    have e7 := seen.de 7 169
                    refine does_plain rfl fun K Q' hK => ?_
                    go_simp; exact hK _ _ (Grow.refl _) rfl
                  · intro w1 hg Ar seen
                    have e8 := seen.de 8 170
                    refine does_plain rfl fun K Q' hK => ?_
                    have hc := cell_later hg D1.out; have hc2 := cell_later hg D2.out
                    go_simp; exact hK _ _ (Grow.refl _) rfl
                  · intro w1 hg Ar seen
                    have e4 := seen.de 4 166
                    have e9 := seen.de 9 171
                    refine does_plain rfl fun K Q' hK => ?_
                    have he := fun w => eqCust 9998 x.1 x.2 w
                    go_simp; exact hK _ _ (Grow.refl _) rfl
              intro w1 hg
              refine upon_w' (js := [0, 1, 2, 3, 4, 5, 6, 7, 8, 9, 10]) (by rfl) ?_
              refine upon_e (some 162) (upon_e (some 163) (upon_e (some 164) (upon_e (some 165) (upon_e (some 166) (upon_e (some 167) (upon_e (some 168) (upon_e (some 169) (upon_e (some 170) (upon_e (some 171) (upon_e (some 172) (upon_n ?_)))))))))))
              go_simp
              go_wp2_with fail
              go_roundw
              case rel => first | exact ⟨k + 1, by omega, by go_num, HG.out.trans (Below.mono hg HG.out.size)⟩ | ((repeat apply Exists.intro); exact ⟨⟨k + 1, by omega, by go_num, HG.out.trans (Below.mono hg HG.out.size)⟩, rfl⟩)
              case measure => simp [intOf]; omega
            · obtain rfl : k = s.custom.n := by omega
              go_wp2_with fail
              go_meet
              exact HG.out
        case rest =>
          have HG3 := hid hcut; clear hcut HG2
          go_wp2_with fail
          go_ret
          exact ⟨rfl, H3.out.trans (Below.mono HG3.out (by have := block_lt H1.out; omega))⟩
end Go.Proofs.YtdlkobmlnpijgaaDoor
