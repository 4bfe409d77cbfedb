/- locksmithref10.Same: the walk. -/
import Derived.Test.YtkmagdhbbhemhaaSame
namespace Go.Proofs.Ytkmagdhbbhemhaa
open Go.RowKit
set_option linter.unusedVariables false
set_option linter.unusedSimpArgs false
set_option maxRecDepth 100000
set_option maxHeartbeats 8000000

theorem RdC.toB {w : World} {a : Option Addr} {n : Nat} {l : List UInt8} (h : RdC w a n (l.map B8)) : RdB w a n l := by
  have hl : l.length = n := by simpa using h.len
  refine ⟨hl, fun j hj => ?_⟩
  obtain ⟨b, off, ha, hc⟩ := h.cell j hj
  refine ⟨b, off, ha, fun i hi => hc i _ ?_⟩
  rw [List.getElem?_map, List.getD_eq_getElem?_getD, List.getElem?_eq_getElem (by omega)]; rfl
theorem SlR.str {P : Program} {w : World} {s : Sl} {l : List UInt8} (h : SlR w s 1 (l.map B8)) (src dst e : TypeId) (hs : P.underlying src = some (.slice e)) (he : P.underlying e = some (.int .u8)) (hd : P.underlying dst = some .string) :
    (convert src dst (.slice s.a s.n s.c)).run P w = .ok (.string ⟨l.toArray⟩) w :=
  run_bytes_str (RdC.toB (by have := h.rd; rwa [Nat.mul_one] at this)) s.c src dst e hs he hd
/-- one string of a slice -/
theorem SlR.one {w : World} {s : Sl} {l : List ByteArray} (h : SlR w s 1 (l.map Value.string)) {k : Nat} (hk : k < s.n) : ∃ b off x, s.a = some ⟨b, off, none⟩ ∧ l[k]? = some x ∧ w.cell? ⟨b, off + k, none⟩ = some (.string x) := by
  have hl : l.length = s.n := by simpa using h.rd.len
  obtain ⟨b, off, ha, hc⟩ := h.rd.cell k (by omega)
  refine ⟨b, off, l[k]'(by omega), ha, List.getElem?_eq_getElem _, hc k _ ?_⟩
  rw [List.getElem?_map, List.getElem?_eq_getElem (by omega)]; rfl
theorem flat_get {α : Type} (f g : α → Value) (l : List α) (k : Nat) (x : α) (h : l[k]? = some x) : (l.flatMap fun x => [f x, g x])[k * 2]? = some (f x) ∧ (l.flatMap fun x => [f x, g x])[k * 2 + 1]? = some (g x) := by
  induction l generalizing k with
  | nil => simp at h
  | cons y l ih =>
    cases k with
    | zero => simp at h; subst h; exact ⟨rfl, rfl⟩
    | succ k =>
      simp at h
      obtain ⟨h1, h2⟩ := ih k h
      simp only [List.flatMap_cons, List.cons_append, List.nil_append]
      exact ⟨by rw [show (k + 1) * 2 = k * 2 + 2 by omega]; exact h1, by rw [show (k + 1) * 2 + 1 = k * 2 + 1 + 2 by omega]; exact h2⟩
theorem flat_len {α : Type} (f g : α → Value) (l : List α) : (l.flatMap fun x => [f x, g x]).length = l.length * 2 := by
  induction l with
  | nil => rfl
  | cons x l ih => simp only [List.flatMap_cons, List.length_append, ih, List.length_cons, List.length_nil]; omega
/-- one pair of a slice -/
theorem SlR.pair {α : Type} {f g : α → Value} {w : World} {s : Sl} {l : List α} (h : SlR w s 2 (l.flatMap fun x => [f x, g x])) {k : Nat} (hk : k < s.n) : ∃ b off x, s.a = some ⟨b, off, none⟩ ∧ l[k]? = some x ∧ w.cell? ⟨b, off + k * 2, none⟩ = some (f x) ∧ w.cell? ⟨b, off + k * 2 + 1, none⟩ = some (g x) := by
  have hl : l.length = s.n := by have := h.rd.len; rw [flat_len] at this; omega
  obtain ⟨b, off, ha, hc⟩ := h.rd.cell (k * 2) (by omega)
  obtain ⟨x, hx⟩ : ∃ x, l[k]? = some x := ⟨l[k]'(by omega), List.getElem?_eq_getElem _⟩
  obtain ⟨h1, h2⟩ := flat_get f g l k x hx
  exact ⟨b, off, x, ha, hx, hc _ _ h1, by have := hc _ _ h2; rwa [← Nat.add_assoc] at this⟩
theorem SlR.len1 {w : World} {s : Sl} {xs : List Value} (h : SlR w s 1 xs) : s.n = xs.length := by have := h.rd.len; omega
theorem SlR.len2 {w : World} {s : Sl} {xs : List Value} (h : SlR w s 2 xs) : s.n * 2 = xs.length := by have := h.rd.len; omega
theorem SlR.drewN {w : World} {s : Sl} {size : Nat} {xs : List Value} (h : SlR w s size xs) (n : Nat) : SlR (w.drewN n) s size xs := h.below ⟨rfl, rfl, rfl, Nat.le_refl _, fun _ _ => rfl⟩

theorem eqLink (d : Nat) (z : Int) (x : ByteArray) (w : World) : (Op.equalIn (d + 2) 57 (.agg #[.int .i64 z, .string x]) (.agg #[.int .i64 z, .string x])).run Try.prog w = .ok true w := by
  go_simp
theorem eqCust (d : Nat) (x y : ByteArray) (w : World) : (Op.equalIn (d + 2) 61 (.agg #[.string x, .string y]) (.agg #[.string x, .string y])).run Try.prog w = .ok true w := by
  go_simp
theorem oSizeD : (Try.prog.info? 32).map (·.size) = some 20 := by kernel_rfl
theorem oSizeL : (Try.prog.info? 37).map (·.size) = some 4 := by kernel_rfl
theorem same_any (O : ObjD) (s s2 : ObjV) (w : World) (h : ObjM w O s) (h2 : ObjM w O s2) :
    Calls Try.prog 15 #[.agg (objCells O s), .agg (objCells O s2)] w fun e w' => e = .returned (.bool true) ∧ Below w.heap.size w w' := by
  generalize hbe : w.heap.size = b
  have HBE := hid hbe; clear hbe
  have hb1 : ((w.alloc (.cells (objCells O s) 39)).alloc (.cells (objCells O s2) 39)).heap[w.heap.size]? = some (.cells (objCells O s) 39 (0, 0)) := heap_alloc2_old _ _ _
  have hb2 : ((w.alloc (.cells (objCells O s) 39)).alloc (.cells (objCells O s2) 39)).heap[w.heap.size + 1]? = some (.cells (objCells O s2) 39 (0, 0)) := heap_alloc2_new _ _ _
  have hb3 : Below w.heap.size w ((w.alloc (.cells (objCells O s) 39)).alloc (.cells (objCells O s2) 39)) := ((Below.refl _ _).alloc (Nat.le_refl _) _).alloc (by simp) _
  have hm := h.below hb3
  have hm2 := h2.below hb3
  rw [HBE.out] at hb1 hb2 hb3
  have H1 := hid hb1; have H2 := hid hb2; have H3 := hid hb3; have HM := hid hm; have HM2 := hid hm2
  clear hb1 hb2 hb3 hm hm2 h h2
  go_enter Try.func15, Try.ntmps15
  go_upto_region 1 with (fail)
  rw [HBE.out]
  generalize (w.alloc (.cells (objCells O s) 39)).alloc (.cells (objCells O s2) 39) = W at *
  have a0 := cell_of_block H1.out (oc0 O s)
  have a1 := cell_of_block H1.out (oc1 O s)
  have a2 := cell_of_block H1.out (oc2 O s)
  have a3 := cell_of_block H1.out (oc3 O s)
  have a4 := cell_of_block H1.out (oc4 O s)
  have a5 := cell_of_block H1.out (oc5 O s)
  have a6 := cell_of_block H1.out (oc6 O s)
  have a27 := cell_of_block H1.out (oc27 O s)
  have a28 := cell_of_block H1.out (oc28 O s)
  have a29 := cell_of_block H1.out (oc29 O s)
  have a30 := cell_of_block H1.out (oc30 O s)
  have a31 := cell_of_block H1.out (oc31 O s)
  have a36 := cell_of_block H1.out (oc36 O s)
  have aD := hid (date_range H1.out)
  have aL := hid (lim_range H1.out)
  have aS := SlR.str (P := Try.prog) HM.out.mat 29 9 5 Try.underlying29 Try.underlying5 Try.underlying9
  have b0 := cell_of_block H2.out (oc0 O s2)
  have b1 := cell_of_block H2.out (oc1 O s2)
  have b2 := cell_of_block H2.out (oc2 O s2)
  have b3 := cell_of_block H2.out (oc3 O s2)
  have b4 := cell_of_block H2.out (oc4 O s2)
  have b5 := cell_of_block H2.out (oc5 O s2)
  have b6 := cell_of_block H2.out (oc6 O s2)
  have b27 := cell_of_block H2.out (oc27 O s2)
  have b28 := cell_of_block H2.out (oc28 O s2)
  have b29 := cell_of_block H2.out (oc29 O s2)
  have b30 := cell_of_block H2.out (oc30 O s2)
  have b31 := cell_of_block H2.out (oc31 O s2)
  have b36 := cell_of_block H2.out (oc36 O s2)
  have bD := hid (date_range H2.out)
  have bL := hid (lim_range H2.out)
  have bS := SlR.str (P := Try.prog) HM2.out.mat 29 9 5 Try.underlying29 Try.underlying5 Try.underlying9
  have eD := fun w => eqDates O 9997 w
  have eL := fun w => eqLim O 9998 w
  have n1 : s.names.n = s2.names.n := HM.out.names.len1.trans HM2.out.names.len1.symm
  have n2 : s.links.n = s2.links.n := by have := HM.out.links.len2; have := HM2.out.links.len2; omega
  have n3 : s.custom.n = s2.custom.n := by have := HM.out.custom.len2; have := HM2.out.custom.len2; omega
  generalize O.id = oid at *
  generalize O.msg = omsg at *
  generalize (⟨O.mat.toArray⟩ : ByteArray) = omat at *
  go_upto_if 118 with (first
    | (refine wpList_load_mid_on rfl 32 _ rfl b 7 rfl (dateL O) _ aD.out Try.underlying32 rfl oSizeD ?_)
    | (refine wpList_load_mid_on rfl 32 _ rfl (b + 1) 7 rfl (dateL O) _ bD.out Try.underlying32 rfl oSizeD ?_)
    | (refine wpList_load_mid_on rfl 37 _ rfl b 32 rfl (limL O) _ aL.out Try.underlying37 rfl oSizeL ?_)
    | (refine wpList_load_mid_on rfl 37 _ rfl (b + 1) 32 rfl (limL O) _ bL.out Try.underlying37 rfl oSizeL ?_))
  go_cut [4] (fun s4 wx => s4 = .bool false ∧ Below W.heap.size W wx)
  case first =>
    go_wp2_with fail
    go_meet
    exact ⟨rfl, Below.refl _ _⟩
  case rest =>
    obtain ⟨rfl, hg0⟩ := hcut
    have HG0 := hid hg0
    clear hg0 a0 a1 a2 a3 a4 a5 a6 a27 a28 a29 a30 a31 a36 b0 b1 b2 b3 b4 b5 b6 b27 b28 b29 b30 b31 b36 aD aL aS bD bL bS eD eL
    have N1 := hid n1; have N2 := hid n2; have N3 := hid n3
    clear n1 n2 n3
    go_upto_block 0 with (fail)
    go_cut [5] (fun _ wx => Below W.heap.size W wx)
    case first =>
      go_wp2_with fail
      go_loopw [5] (fun x wr => ∃ k : Nat, k ≤ s.names.n ∧ x = .int .i64 k ∧ Below W.heap.size W wr) (fun x _ => s.names.n - (intOf x).toNat)
      case atStart => exact ⟨0, Nat.zero_le _, rfl, HG0.out⟩
      case round =>
        obtain ⟨k, hk, rfl, hgr⟩ := hrel
        have HG := hid hgr; clear hgr
        have SM := hid HM.out.names.sm
        have hsm : s.names.n ≤ 1099511627776 := SM.out
        have ca := cell_of_block ((HG.out.block _ (block_lt H1.out)).trans H1.out) (oc29 O s)
        have cb := cell_of_block ((HG.out.block _ (block_lt H2.out)).trans H2.out) (oc29 O s2)
        by_cases hlt : k < s.names.n
        · obtain ⟨ba, oa, x, ha, hx, hc1⟩ := (HM.out.names.below HG.out).one hlt
          obtain ⟨bb, ob, y, hb', hy, hd1⟩ := (HM2.out.names.below HG.out).one (N1.out ▸ hlt)
          obtain rfl : x = y := Option.some.inj (hx.symm.trans hy)
          rw [ha] at ca; rw [hb', ← N1.out] at cb
          have CA := hid ca; have CB := hid cb; have C1 := hid hc1; have D1 := hid hd1
          clear ca cb hc1 hd1 ha hb' hx hy
          have ca' := CA.out
          go_upto_region 6 with (fail)
          clear ca'
          refine wp_region_each 11 [.eq (.pointer (some ⟨b, 29, none⟩)), .eq (.slice (some ⟨ba, oa, none⟩) s.names.n s.names.c), .eq (.int .i64 (k : Int)), .eq (.pointer (some ⟨ba, oa + k, none⟩)), .eq (.string x), .eq (.pointer (some ⟨b + 1, 29, none⟩)), .eq (.slice (some ⟨bb, ob, none⟩) s.names.n s2.names.c), .eq (.int .i64 (k : Int)), .eq (.pointer (some ⟨bb, ob + k, none⟩)), .eq (.string x), .eq (.bool false)] (by kernel_rfl) (by kernel_rfl) (by kernel_rfl) (by kernel_rfl) ?_ ?_
          · as_aux_lemma =>
              refine each_c (o' := _) ?_ (each_c (o' := _) ?_ (each_c (o' := _) ?_ (each_c (o' := _) ?_ (each_c (o' := _) ?_ (each_c (o' := _) ?_ (each_c (o' := _) ?_ (each_c (o' := _) ?_ (each_c (o' := _) ?_ (each_c (o' := _) ?_ (each_c (o' := _) ?_ (each_n)))))))))))
              -- 0: fieldAddr 39 t2 10
              · intro w1 hg Ar seen
                have s2 := seen.slot 2 (v := .pointer (some ⟨b, 0, none⟩)) (by kernel_rfl) rfl
                refine does_plain rfl fun K Q' hK => ?_
                go_simp; exact hK _ _ (Grow.refl _) rfl
              -- 1: load 33 t126
              · intro w1 hg Ar seen
                obtain ⟨v0, e0, h0⟩ := seen.dep 0 (d := 126) (by kernel_rfl) (by kernel_rfl) rfl
                rcases h0 with rfl
                refine does_plain rfl fun K Q' hK => ?_
                have hc := cell_later hg CA.out
                go_simp; exact hK _ _ (Grow.refl _) rfl
              -- 2: move t5
              · intro w1 hg Ar seen
                have s5 := seen.slot 5 (v := .int .i64 (k : Int)) (by kernel_rfl) rfl
                refine does_plain rfl fun K Q' hK => ?_
                go_simp; exact hK _ _ (Grow.refl _) rfl
              -- 3: indexAddr 33 t127 t128
              · intro w1 hg Ar seen
                obtain ⟨v1, e1, h1⟩ := seen.dep 1 (d := 127) (by kernel_rfl) (by kernel_rfl) rfl
                rcases h1 with rfl
                obtain ⟨v2, e2, h2⟩ := seen.dep 2 (d := 128) (by kernel_rfl) (by kernel_rfl) rfl
                rcases h2 with rfl
                refine does_plain rfl fun K Q' hK => ?_
                go_simp; exact hK _ _ (Grow.refl _) rfl
              -- 4: load 9 t129
              · intro w1 hg Ar seen
                obtain ⟨v3, e3, h3⟩ := seen.dep 3 (d := 129) (by kernel_rfl) (by kernel_rfl) rfl
                rcases h3 with rfl
                refine does_plain rfl fun K Q' hK => ?_
                have hc := cell_later hg C1.out
                go_simp; exact hK _ _ (Grow.refl _) rfl
              -- 5: fieldAddr 39 t3 10
              · intro w1 hg Ar seen
                have s3 := seen.slot 3 (v := .pointer (some ⟨b + 1, 0, none⟩)) (by kernel_rfl) rfl
                refine does_plain rfl fun K Q' hK => ?_
                go_simp; exact hK _ _ (Grow.refl _) rfl
              -- 6: load 33 t131
              · intro w1 hg Ar seen
                obtain ⟨v5, e5, h5⟩ := seen.dep 5 (d := 131) (by kernel_rfl) (by kernel_rfl) rfl
                rcases h5 with rfl
                refine does_plain rfl fun K Q' hK => ?_
                have hc := cell_later hg CB.out
                go_simp; exact hK _ _ (Grow.refl _) rfl
              -- 7: move t5
              · intro w1 hg Ar seen
                have s5 := seen.slot 5 (v := .int .i64 (k : Int)) (by kernel_rfl) rfl
                refine does_plain rfl fun K Q' hK => ?_
                go_simp; exact hK _ _ (Grow.refl _) rfl
              -- 8: indexAddr 33 t132 t133
              · intro w1 hg Ar seen
                obtain ⟨v6, e6, h6⟩ := seen.dep 6 (d := 132) (by kernel_rfl) (by kernel_rfl) rfl
                rcases h6 with rfl
                obtain ⟨v7, e7, h7⟩ := seen.dep 7 (d := 133) (by kernel_rfl) (by kernel_rfl) rfl
                rcases h7 with rfl
                refine does_plain rfl fun K Q' hK => ?_
                go_simp; exact hK _ _ (Grow.refl _) rfl
              -- 9: load 9 t134
              · intro w1 hg Ar seen
                obtain ⟨v8, e8, h8⟩ := seen.dep 8 (d := 134) (by kernel_rfl) (by kernel_rfl) rfl
                rcases h8 with rfl
                refine does_plain rfl fun K Q' hK => ?_
                have hc := cell_later hg D1.out
                go_simp; exact hK _ _ (Grow.refl _) rfl
              -- 10: binOp BinOp.neq 9 t130 t135 9
              · intro w1 hg Ar seen
                obtain ⟨v4, e4, h4⟩ := seen.dep 4 (d := 130) (by kernel_rfl) (by kernel_rfl) rfl
                rcases h4 with rfl
                obtain ⟨v9, e9, h9⟩ := seen.dep 9 (d := 135) (by kernel_rfl) (by kernel_rfl) rfl
                rcases h9 with rfl
                refine does_plain rfl fun K Q' hK => ?_
                go_simp; exact hK _ _ (Grow.refl _) rfl
          intro w1 hg
          refine upon_w' (js := [0, 1, 2, 3, 4, 5, 6, 7, 8, 9, 10]) (by rfl) ?_
          refine upon_c (x := some 126) (by kernel_rfl) rfl fun v0 h0 => ?_
          rcases h0 with rfl
          refine upon_c (x := some 127) (by kernel_rfl) rfl fun v1 h1 => ?_
          rcases h1 with rfl
          refine upon_c (x := some 128) (by kernel_rfl) rfl fun v2 h2 => ?_
          rcases h2 with rfl
          refine upon_c (x := some 129) (by kernel_rfl) rfl fun v3 h3 => ?_
          rcases h3 with rfl
          refine upon_c (x := some 130) (by kernel_rfl) rfl fun v4 h4 => ?_
          rcases h4 with rfl
          refine upon_c (x := some 131) (by kernel_rfl) rfl fun v5 h5 => ?_
          rcases h5 with rfl
          refine upon_c (x := some 132) (by kernel_rfl) rfl fun v6 h6 => ?_
          rcases h6 with rfl
          refine upon_c (x := some 133) (by kernel_rfl) rfl fun v7 h7 => ?_
          rcases h7 with rfl
          refine upon_c (x := some 134) (by kernel_rfl) rfl fun v8 h8 => ?_
          rcases h8 with rfl
          refine upon_c (x := some 135) (by kernel_rfl) rfl fun v9 h9 => ?_
          rcases h9 with rfl
          refine upon_c (x := some 136) (by kernel_rfl) rfl fun v10 h10 => ?_
          rcases h10 with rfl
          refine upon_n ?_
          go_simp
          go_wp2_with fail
          go_roundw
          case rel => first | exact ⟨k + 1, by omega, by go_num, HG.out.trans (Below.mono hg HG.out.size)⟩ | ((repeat apply Exists.intro); exact ⟨⟨k + 1, by omega, by go_num, HG.out.trans (Below.mono hg HG.out.size)⟩, rfl⟩)
          case measure => simp [intOf]; omega
        · obtain rfl : k = s.names.n := by omega
          go_wp2_with fail
          go_meet
          exact HG.out
    case rest =>
      have HG1 := hid hcut; clear hcut HG0
      go_upto_block 2 with (fail)
      go_cut [6] (fun _ wx => Below W.heap.size W wx)
      case first =>
        go_wp2_with fail
        go_loopw [6] (fun x wr => ∃ k : Nat, k ≤ s.links.n ∧ x = .int .i64 k ∧ Below W.heap.size W wr) (fun x _ => s.links.n - (intOf x).toNat)
        case atStart => exact ⟨0, Nat.zero_le _, rfl, HG1.out⟩
        case round =>
          obtain ⟨k, hk, rfl, hgr⟩ := hrel
          have HG := hid hgr; clear hgr
          have SM := hid HM.out.links.sm
          have hsm : s.links.n ≤ 1099511627776 := SM.out
          have ca := cell_of_block ((HG.out.block _ (block_lt H1.out)).trans H1.out) (oc30 O s)
          have cb := cell_of_block ((HG.out.block _ (block_lt H2.out)).trans H2.out) (oc30 O s2)
          by_cases hlt : k < s.links.n
          · obtain ⟨ba, oa, x, ha, hx, hc1, hc2⟩ := (HM.out.links.below HG.out).pair hlt
            obtain ⟨bb, ob, y, hb', hy, hd1, hd2⟩ := (HM2.out.links.below HG.out).pair (N2.out ▸ hlt)
            obtain rfl : x = y := Option.some.inj (hx.symm.trans hy)
            rw [ha] at ca; rw [hb', ← N2.out] at cb
            have CA := hid ca; have CB := hid cb; have C1 := hid hc1; have D1 := hid hd1
            have C2 := hid hc2; have D2 := hid hd2
            clear ca cb hc1 hd1 ha hb' hx hy hc2 hd2
            have ca' := CA.out
            go_upto_region 11 with (fail)
            clear ca'
            refine wp_region_each 11 [.eq (.pointer (some ⟨b, 30, none⟩)), .eq (.slice (some ⟨ba, oa, none⟩) s.links.n s.links.c), .eq (.int .i64 (k : Int)), .eq (.pointer (some ⟨ba, oa + k * 2, none⟩)), .eq (.agg #[.int .i64 x.1, .string x.2]), .eq (.pointer (some ⟨b + 1, 30, none⟩)), .eq (.slice (some ⟨bb, ob, none⟩) s.links.n s2.links.c), .eq (.int .i64 (k : Int)), .eq (.pointer (some ⟨bb, ob + k * 2, none⟩)), .eq (.agg #[.int .i64 x.1, .string x.2]), .eq (.bool false)] (by kernel_rfl) (by kernel_rfl) (by kernel_rfl) (by kernel_rfl) ?_ ?_
            · as_aux_lemma =>
                refine each_c (o' := _) ?_ (each_c (o' := _) ?_ (each_c (o' := _) ?_ (each_c (o' := _) ?_ (each_c (o' := _) ?_ (each_c (o' := _) ?_ (each_c (o' := _) ?_ (each_c (o' := _) ?_ (each_c (o' := _) ?_ (each_c (o' := _) ?_ (each_c (o' := _) ?_ (each_n)))))))))))
                -- 0: fieldAddr 39 t2 11
                · intro w1 hg Ar seen
                  have s2 := seen.slot 2 (v := .pointer (some ⟨b, 0, none⟩)) (by kernel_rfl) rfl
                  refine does_plain rfl fun K Q' hK => ?_
                  go_simp; exact hK _ _ (Grow.refl _) rfl
                -- 1: load 34 t144
                · intro w1 hg Ar seen
                  obtain ⟨v0, e0, h0⟩ := seen.dep 0 (d := 144) (by kernel_rfl) (by kernel_rfl) rfl
                  rcases h0 with rfl
                  refine does_plain rfl fun K Q' hK => ?_
                  have hc := cell_later hg CA.out
                  go_simp; exact hK _ _ (Grow.refl _) rfl
                -- 2: move t6
                · intro w1 hg Ar seen
                  have s6 := seen.slot 6 (v := .int .i64 (k : Int)) (by kernel_rfl) rfl
                  refine does_plain rfl fun K Q' hK => ?_
                  go_simp; exact hK _ _ (Grow.refl _) rfl
                -- 3: indexAddr 34 t145 t146
                · intro w1 hg Ar seen
                  obtain ⟨v1, e1, h1⟩ := seen.dep 1 (d := 145) (by kernel_rfl) (by kernel_rfl) rfl
                  rcases h1 with rfl
                  obtain ⟨v2, e2, h2⟩ := seen.dep 2 (d := 146) (by kernel_rfl) (by kernel_rfl) rfl
                  rcases h2 with rfl
                  refine does_plain rfl fun K Q' hK => ?_
                  go_simp; exact hK _ _ (Grow.refl _) rfl
                -- 4: load 57 t147
                · intro w1 hg Ar seen
                  obtain ⟨v3, e3, h3⟩ := seen.dep 3 (d := 147) (by kernel_rfl) (by kernel_rfl) rfl
                  rcases h3 with rfl
                  refine does_plain rfl fun K Q' hK => ?_
                  have hc := cell_later hg C1.out; have hc2 := cell_later hg C2.out
                  go_simp; exact hK _ _ (Grow.refl _) rfl
                -- 5: fieldAddr 39 t3 11
                · intro w1 hg Ar seen
                  have s3 := seen.slot 3 (v := .pointer (some ⟨b + 1, 0, none⟩)) (by kernel_rfl) rfl
                  refine does_plain rfl fun K Q' hK => ?_
                  go_simp; exact hK _ _ (Grow.refl _) rfl
                -- 6: load 34 t149
                · intro w1 hg Ar seen
                  obtain ⟨v5, e5, h5⟩ := seen.dep 5 (d := 149) (by kernel_rfl) (by kernel_rfl) rfl
                  rcases h5 with rfl
                  refine does_plain rfl fun K Q' hK => ?_
                  have hc := cell_later hg CB.out
                  go_simp; exact hK _ _ (Grow.refl _) rfl
                -- 7: move t6
                · intro w1 hg Ar seen
                  have s6 := seen.slot 6 (v := .int .i64 (k : Int)) (by kernel_rfl) rfl
                  refine does_plain rfl fun K Q' hK => ?_
                  go_simp; exact hK _ _ (Grow.refl _) rfl
                -- 8: indexAddr 34 t150 t151
                · intro w1 hg Ar seen
                  obtain ⟨v6, e6, h6⟩ := seen.dep 6 (d := 150) (by kernel_rfl) (by kernel_rfl) rfl
                  rcases h6 with rfl
                  obtain ⟨v7, e7, h7⟩ := seen.dep 7 (d := 151) (by kernel_rfl) (by kernel_rfl) rfl
                  rcases h7 with rfl
                  refine does_plain rfl fun K Q' hK => ?_
                  go_simp; exact hK _ _ (Grow.refl _) rfl
                -- 9: load 57 t152
                · intro w1 hg Ar seen
                  obtain ⟨v8, e8, h8⟩ := seen.dep 8 (d := 152) (by kernel_rfl) (by kernel_rfl) rfl
                  rcases h8 with rfl
                  refine does_plain rfl fun K Q' hK => ?_
                  have hc := cell_later hg D1.out; have hc2 := cell_later hg D2.out
                  go_simp; exact hK _ _ (Grow.refl _) rfl
                -- 10: binOp BinOp.neq 57 t148 t153 57
                · intro w1 hg Ar seen
                  obtain ⟨v4, e4, h4⟩ := seen.dep 4 (d := 148) (by kernel_rfl) (by kernel_rfl) rfl
                  rcases h4 with rfl
                  obtain ⟨v9, e9, h9⟩ := seen.dep 9 (d := 153) (by kernel_rfl) (by kernel_rfl) rfl
                  rcases h9 with rfl
                  refine does_plain rfl fun K Q' hK => ?_
                  have he := fun w => eqLink 9998 x.1 x.2 w
                  go_simp; exact hK _ _ (Grow.refl _) rfl
            intro w1 hg
            refine upon_w' (js := [0, 1, 2, 3, 4, 5, 6, 7, 8, 9, 10]) (by rfl) ?_
            refine upon_c (x := some 144) (by kernel_rfl) rfl fun v0 h0 => ?_
            rcases h0 with rfl
            refine upon_c (x := some 145) (by kernel_rfl) rfl fun v1 h1 => ?_
            rcases h1 with rfl
            refine upon_c (x := some 146) (by kernel_rfl) rfl fun v2 h2 => ?_
            rcases h2 with rfl
            refine upon_c (x := some 147) (by kernel_rfl) rfl fun v3 h3 => ?_
            rcases h3 with rfl
            refine upon_c (x := some 148) (by kernel_rfl) rfl fun v4 h4 => ?_
            rcases h4 with rfl
            refine upon_c (x := some 149) (by kernel_rfl) rfl fun v5 h5 => ?_
            rcases h5 with rfl
            refine upon_c (x := some 150) (by kernel_rfl) rfl fun v6 h6 => ?_
            rcases h6 with rfl
            refine upon_c (x := some 151) (by kernel_rfl) rfl fun v7 h7 => ?_
            rcases h7 with rfl
            refine upon_c (x := some 152) (by kernel_rfl) rfl fun v8 h8 => ?_
            rcases h8 with rfl
            refine upon_c (x := some 153) (by kernel_rfl) rfl fun v9 h9 => ?_
            rcases h9 with rfl
            refine upon_c (x := some 154) (by kernel_rfl) rfl fun v10 h10 => ?_
            rcases h10 with rfl
            refine upon_n ?_
            go_simp
            go_wp2_with fail
            go_roundw
            case rel => first | exact ⟨k + 1, by omega, by go_num, HG.out.trans (Below.mono hg HG.out.size)⟩ | ((repeat apply Exists.intro); exact ⟨⟨k + 1, by omega, by go_num, HG.out.trans (Below.mono hg HG.out.size)⟩, rfl⟩)
            case measure => simp [intOf]; omega
          · obtain rfl : k = s.links.n := by omega
            go_wp2_with fail
            go_meet
            exact HG.out
      case rest =>
        have HG2 := hid hcut; clear hcut HG1
        go_upto_block 4 with (fail)
        go_cut [7] (fun _ wx => Below W.heap.size W wx)
        case first =>
          go_wp2_with fail
          go_loopw [7] (fun x wr => ∃ k : Nat, k ≤ s.custom.n ∧ x = .int .i64 k ∧ Below W.heap.size W wr) (fun x _ => s.custom.n - (intOf x).toNat)
          case atStart => exact ⟨0, Nat.zero_le _, rfl, HG2.out⟩
          case round =>
            obtain ⟨k, hk, rfl, hgr⟩ := hrel
            have HG := hid hgr; clear hgr
            have SM := hid HM.out.custom.sm
            have hsm : s.custom.n ≤ 1099511627776 := SM.out
            have ca := cell_of_block ((HG.out.block _ (block_lt H1.out)).trans H1.out) (oc31 O s)
            have cb := cell_of_block ((HG.out.block _ (block_lt H2.out)).trans H2.out) (oc31 O s2)
            by_cases hlt : k < s.custom.n
            · obtain ⟨ba, oa, x, ha, hx, hc1, hc2⟩ := (HM.out.custom.below HG.out).pair hlt
              obtain ⟨bb, ob, y, hb', hy, hd1, hd2⟩ := (HM2.out.custom.below HG.out).pair (N3.out ▸ hlt)
              obtain rfl : x = y := Option.some.inj (hx.symm.trans hy)
              rw [ha] at ca; rw [hb', ← N3.out] at cb
              have CA := hid ca; have CB := hid cb; have C1 := hid hc1; have D1 := hid hd1
              have C2 := hid hc2; have D2 := hid hd2
              clear ca cb hc1 hd1 ha hb' hx hy hc2 hd2
              have ca' := CA.out
              go_upto_region 16 with (fail)
              clear ca'
              refine wp_region_each 11 [.eq (.pointer (some ⟨b, 31, none⟩)), .eq (.slice (some ⟨ba, oa, none⟩) s.custom.n s.custom.c), .eq (.int .i64 (k : Int)), .eq (.pointer (some ⟨ba, oa + k * 2, none⟩)), .eq (.agg #[.string x.1, .string x.2]), .eq (.pointer (some ⟨b + 1, 31, none⟩)), .eq (.slice (some ⟨bb, ob, none⟩) s.custom.n s2.custom.c), .eq (.int .i64 (k : Int)), .eq (.pointer (some ⟨bb, ob + k * 2, none⟩)), .eq (.agg #[.string x.1, .string x.2]), .eq (.bool false)] (by kernel_rfl) (by kernel_rfl) (by kernel_rfl) (by kernel_rfl) ?_ ?_
              · as_aux_lemma =>
                  refine each_c (o' := _) ?_ (each_c (o' := _) ?_ (each_c (o' := _) ?_ (each_c (o' := _) ?_ (each_c (o' := _) ?_ (each_c (o' := _) ?_ (each_c (o' := _) ?_ (each_c (o' := _) ?_ (each_c (o' := _) ?_ (each_c (o' := _) ?_ (each_c (o' := _) ?_ (each_n)))))))))))
                  -- 0: fieldAddr 39 t2 12
                  · intro w1 hg Ar seen
                    have s2 := seen.slot 2 (v := .pointer (some ⟨b, 0, none⟩)) (by kernel_rfl) rfl
                    refine does_plain rfl fun K Q' hK => ?_
                    go_simp; exact hK _ _ (Grow.refl _) rfl
                  -- 1: load 35 t162
                  · intro w1 hg Ar seen
                    obtain ⟨v0, e0, h0⟩ := seen.dep 0 (d := 162) (by kernel_rfl) (by kernel_rfl) rfl
                    rcases h0 with rfl
                    refine does_plain rfl fun K Q' hK => ?_
                    have hc := cell_later hg CA.out
                    go_simp; exact hK _ _ (Grow.refl _) rfl
                  -- 2: move t7
                  · intro w1 hg Ar seen
                    have s7 := seen.slot 7 (v := .int .i64 (k : Int)) (by kernel_rfl) rfl
                    refine does_plain rfl fun K Q' hK => ?_
                    go_simp; exact hK _ _ (Grow.refl _) rfl
                  -- 3: indexAddr 35 t163 t164
                  · intro w1 hg Ar seen
                    obtain ⟨v1, e1, h1⟩ := seen.dep 1 (d := 163) (by kernel_rfl) (by kernel_rfl) rfl
                    rcases h1 with rfl
                    obtain ⟨v2, e2, h2⟩ := seen.dep 2 (d := 164) (by kernel_rfl) (by kernel_rfl) rfl
                    rcases h2 with rfl
                    refine does_plain rfl fun K Q' hK => ?_
                    go_simp; exact hK _ _ (Grow.refl _) rfl
                  -- 4: load 61 t165
                  · intro w1 hg Ar seen
                    obtain ⟨v3, e3, h3⟩ := seen.dep 3 (d := 165) (by kernel_rfl) (by kernel_rfl) rfl
                    rcases h3 with rfl
                    refine does_plain rfl fun K Q' hK => ?_
                    have hc := cell_later hg C1.out; have hc2 := cell_later hg C2.out
                    go_simp; exact hK _ _ (Grow.refl _) rfl
                  -- 5: fieldAddr 39 t3 12
                  · intro w1 hg Ar seen
                    have s3 := seen.slot 3 (v := .pointer (some ⟨b + 1, 0, none⟩)) (by kernel_rfl) rfl
                    refine does_plain rfl fun K Q' hK => ?_
                    go_simp; exact hK _ _ (Grow.refl _) rfl
                  -- 6: load 35 t167
                  · intro w1 hg Ar seen
                    obtain ⟨v5, e5, h5⟩ := seen.dep 5 (d := 167) (by kernel_rfl) (by kernel_rfl) rfl
                    rcases h5 with rfl
                    refine does_plain rfl fun K Q' hK => ?_
                    have hc := cell_later hg CB.out
                    go_simp; exact hK _ _ (Grow.refl _) rfl
                  -- 7: move t7
                  · intro w1 hg Ar seen
                    have s7 := seen.slot 7 (v := .int .i64 (k : Int)) (by kernel_rfl) rfl
                    refine does_plain rfl fun K Q' hK => ?_
                    go_simp; exact hK _ _ (Grow.refl _) rfl
                  -- 8: indexAddr 35 t168 t169
                  · intro w1 hg Ar seen
                    obtain ⟨v6, e6, h6⟩ := seen.dep 6 (d := 168) (by kernel_rfl) (by kernel_rfl) rfl
                    rcases h6 with rfl
                    obtain ⟨v7, e7, h7⟩ := seen.dep 7 (d := 169) (by kernel_rfl) (by kernel_rfl) rfl
                    rcases h7 with rfl
                    refine does_plain rfl fun K Q' hK => ?_
                    go_simp; exact hK _ _ (Grow.refl _) rfl
                  -- 9: load 61 t170
                  · intro w1 hg Ar seen
                    obtain ⟨v8, e8, h8⟩ := seen.dep 8 (d := 170) (by kernel_rfl) (by kernel_rfl) rfl
                    rcases h8 with rfl
                    refine does_plain rfl fun K Q' hK => ?_
                    have hc := cell_later hg D1.out; have hc2 := cell_later hg D2.out
                    go_simp; exact hK _ _ (Grow.refl _) rfl
                  -- 10: binOp BinOp.neq 61 t166 t171 61
                  · intro w1 hg Ar seen
                    obtain ⟨v4, e4, h4⟩ := seen.dep 4 (d := 166) (by kernel_rfl) (by kernel_rfl) rfl
                    rcases h4 with rfl
                    obtain ⟨v9, e9, h9⟩ := seen.dep 9 (d := 171) (by kernel_rfl) (by kernel_rfl) rfl
                    rcases h9 with rfl
                    refine does_plain rfl fun K Q' hK => ?_
                    have he := fun w => eqCust 9998 x.1 x.2 w
                    go_simp; exact hK _ _ (Grow.refl _) rfl
              intro w1 hg
              refine upon_w' (js := [0, 1, 2, 3, 4, 5, 6, 7, 8, 9, 10]) (by rfl) ?_
              refine upon_c (x := some 162) (by kernel_rfl) rfl fun v0 h0 => ?_
              rcases h0 with rfl
              refine upon_c (x := some 163) (by kernel_rfl) rfl fun v1 h1 => ?_
              rcases h1 with rfl
              refine upon_c (x := some 164) (by kernel_rfl) rfl fun v2 h2 => ?_
              rcases h2 with rfl
              refine upon_c (x := some 165) (by kernel_rfl) rfl fun v3 h3 => ?_
              rcases h3 with rfl
              refine upon_c (x := some 166) (by kernel_rfl) rfl fun v4 h4 => ?_
              rcases h4 with rfl
              refine upon_c (x := some 167) (by kernel_rfl) rfl fun v5 h5 => ?_
              rcases h5 with rfl
              refine upon_c (x := some 168) (by kernel_rfl) rfl fun v6 h6 => ?_
              rcases h6 with rfl
              refine upon_c (x := some 169) (by kernel_rfl) rfl fun v7 h7 => ?_
              rcases h7 with rfl
              refine upon_c (x := some 170) (by kernel_rfl) rfl fun v8 h8 => ?_
              rcases h8 with rfl
              refine upon_c (x := some 171) (by kernel_rfl) rfl fun v9 h9 => ?_
              rcases h9 with rfl
              refine upon_c (x := some 172) (by kernel_rfl) rfl fun v10 h10 => ?_
              rcases h10 with rfl
              refine upon_n ?_
              go_simp
              go_wp2_with fail
              go_roundw
              case rel => first | exact ⟨k + 1, by omega, by go_num, HG.out.trans (Below.mono hg HG.out.size)⟩ | ((repeat apply Exists.intro); exact ⟨⟨k + 1, by omega, by go_num, HG.out.trans (Below.mono hg HG.out.size)⟩, rfl⟩)
              case measure => simp [intOf]; omega
            · obtain rfl : k = s.custom.n := by omega
              go_wp2_with fail
              go_meet
              exact HG.out
        case rest =>
          have HG3 := hid hcut; clear hcut HG2
          go_wp2_with fail
          go_ret
          exact ⟨rfl, H3.out.trans (Below.mono HG3.out (by have := block_lt H1.out; omega))⟩
end Go.Proofs.Ytkmagdhbbhemhaa
