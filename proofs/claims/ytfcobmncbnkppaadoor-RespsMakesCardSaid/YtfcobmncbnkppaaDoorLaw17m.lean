/- locksmithhand.Name; RespsMakes: the walk. -/
import Derived.Test.YtfcobmncbnkppaaDoorRsp8
import Derived.Test.YtfcobmncbnkppaaDoorRsp10
import Derived.Test.YtfcobmncbnkppaaDoorRefRsp
import Derived.Test.YtfcobmncbnkppaaDoorHVal
import Derived.Lib.LaidU8
import Derived.Deep.DeepCutAuto
import Derived.Deep.CutBlock
namespace Go.Proofs.YtfcobmncbnkppaaDoor
open Go.RowKit
set_option linter.unusedVariables false
set_option linter.unusedSimpArgs false
set_option maxRecDepth 100000
set_option maxHeartbeats 4000000
def nmL : List ByteArray := [⟨#[85, 110, 105, 113, 117, 101, 32, 73, 100, 101, 110, 116, 105, 102, 105, 101, 114]⟩, ⟨#[78, 97, 109, 101]⟩, ⟨#[79, 98, 106, 101, 99, 116, 32, 84, 121, 112, 101]⟩, ⟨#[67, 114, 121, 112, 116, 111, 103, 114, 97, 112, 104, 105, 99, 32, 65, 108, 103, 111, 114, 105, 116, 104, 109]⟩, ⟨#[67, 114, 121, 112, 116, 111, 103, 114, 97, 112, 104, 105, 99, 32, 76, 101, 110, 103, 116, 104]⟩, ⟨#[67, 114, 121, 112, 116, 111, 103, 114, 97, 112, 104, 105, 99, 32, 85, 115, 97, 103, 101, 32, 77, 97, 115, 107]⟩, ⟨#[83, 116, 97, 116, 101]⟩, ⟨#[73, 110, 105, 116, 105, 97, 108, 32, 68, 97, 116, 101]⟩, ⟨#[65, 99, 116, 105, 118, 97, 116, 105, 111, 110, 32, 68, 97, 116, 101]⟩, ⟨#[80, 114, 111, 99, 101, 115, 115, 32, 83, 116, 97, 114, 116, 32, 68, 97, 116, 101]⟩, ⟨#[80, 114, 111, 116, 101, 99, 116, 32, 83, 116, 111, 112, 32, 68, 97, 116, 101]⟩, ⟨#[68, 101, 97, 99, 116, 105, 118, 97, 116, 105, 111, 110, 32, 68, 97, 116, 101]⟩, ⟨#[68, 101, 115, 116, 114, 111, 121, 32, 68, 97, 116, 101]⟩, ⟨#[67, 111, 109, 112, 114, 111, 109, 105, 115, 101, 32, 79, 99, 99, 117, 114, 114, 101, 110, 99, 101, 32, 68, 97, 116, 101]⟩, ⟨#[67, 111, 109, 112, 114, 111, 109, 105, 115, 101, 32, 68, 97, 116, 101]⟩, ⟨#[65, 114, 99, 104, 105, 118, 101, 32, 68, 97, 116, 101]⟩, ⟨#[76, 97, 115, 116, 32, 67, 104, 97, 110, 103, 101, 32, 68, 97, 116, 101]⟩, ⟨#[82, 101, 118, 111, 99, 97, 116, 105, 111, 110, 32, 82, 101, 97, 115, 111, 110]⟩, ⟨#[76, 105, 110, 107]⟩, ⟨#[85, 115, 97, 103, 101, 32, 76, 105, 109, 105, 116, 115]⟩, ⟨#[120, 45, 97]⟩, ⟨#[120, 45, 98]⟩, ⟨#[120, 45]⟩, ⟨#[121]⟩]
/-- The table of names. -/
def NamesTab (w : World) : Prop := ∀ k, k < 24 → w.cell? ⟨0, k, none⟩ = some (.string (nmL.getD k ⟨#[]⟩))
theorem NamesTab.below {w w' : World} (h : NamesTab w) (hb : Below w.heap.size w w') : NamesTab w' := fun k hk => cell_later hb (h k hk)
theorem cells1S : Tryd.prog.cellsOf 9 = 1 := by kernel_rfl
theorem namesLaid : (Rows.laid_locksmith_locksmithhand_names : DataW Unit) = .agg (nmL.map fun s => .lit (.string s.data.toList)) := by kernel_rfl
theorem namesTab {W : World} (h : Lib.VarReads Tryd.prog W "locksmith/locksmithhand.names" Rows.laid_locksmith_locksmithhand_names) : NamesTab W := by
  obtain ⟨g, t, cs, fuel, p, hg, hty, hvar, hd⟩ := h
  obtain rfl := Option.some.inj ((show Tryd.prog.globalNamed "locksmith/locksmithhand.names" = some 0 by kernel_rfl).symm.trans hg)
  obtain rfl := Option.some.inj ((show (Tryd.prog.globals[0]?).map (·.type) = some 64 by kernel_rfl).symm.trans hty)
  rw [namesLaid] at hd
  intro k hk
  obtain ⟨fuel', d, q, hdi, he⟩ := Lib.array_elem Tryd.underlying64 hd k hk
  rw [cells1S, Nat.mul_one] at he
  obtain ⟨s, hcs, hx, _⟩ := DataW.trod_string Tryd.underlying9 he
  have hdd : d = .lit (.string s.data.toList) := congrArg Prod.fst hx
  rw [hdd, List.getElem?_map] at hdi
  have hc : cs.toList[k]? = some (.string s) := by
    have := congrArg (·[0]?) hcs
    simpa [List.getElem?_take, List.getElem?_drop] using this
  obtain ⟨nmk, hnk⟩ : ∃ y, nmL[k]? = some y := ⟨_, List.getElem?_eq_getElem (show k < nmL.length from hk)⟩
  rw [hnk] at hdi
  simp only [Option.map_some, Option.some.injEq, DataW.lit.injEq, Lit.string.injEq] at hdi
  have hs : s = nmk := by
    obtain ⟨⟨s⟩⟩ := s
    obtain ⟨⟨y⟩⟩ := nmk
    simp at hdi
    rw [hdi]
  rw [World.var?_cell hg hvar k, ← Array.getElem?_toList, hc, hs, List.getD_eq_getElem?_getD, hnk]
  rfl
theorem name_any (n : Int) (w : World) (h : NamesTab w) : Calls Tryd.prog 7 #[.int .i64 n] w fun e w' => e = .returned (.string (nmL.getD (pickN n 24) ⟨#[]⟩)) ∧ w = w' := by
  have hlt := pickN_lt n 24 (by omega)
  have hpe : pick n 24 = (pickN n 24 : Int) := pickN_eq n 24 (by omega)
  have hc := h (pickN n 24) hlt
  have HP := hid hpe
  clear h hpe
  generalize nmL.getD (pickN n 24) ⟨#[]⟩ = S at *
  generalize pickN n 24 = k at *
  go_enter Tryd.func7, Tryd.ntmps7
  go_wp2_with fail
  refine (pick_any n 24 _ (by omega) (by omega)).mono ?_
  rintro e w1 ⟨rfl, rfl⟩
  rw [HP.out]
  have hb : (k : Int) < 24 := by omega
  go_wp2_with fail
  go_ret
  exact ⟨rfl, rfl⟩
def stNz : St Grow := ⟨fun v w => ∃ x : ItV, v = .agg x.arr ∧ x.ok w ∧ nz x.it = true, fun v w w' h hg => let ⟨x, e, h2, h3⟩ := h; ⟨x, e, h2.below hg, h3⟩⟩
def stRs (P : RsI) : St Grow := ⟨fun v w => ∃ x : RsIV, v = .agg x.arr ∧ x.rq = P ∧ x.ok w, fun v w w' h hg => let ⟨x, e, h2, h3⟩ := h; ⟨x, e, h2, h3.below hg⟩⟩
def stRv (P : Rs) : St Grow := ⟨fun v w => ∃ x : RsV, v = .agg x.arr ∧ x.rq = P ∧ x.ok w, fun v w w' h hg => let ⟨x, e, h2, h3⟩ := h; ⟨x, e, h2, h3.below hg⟩⟩
theorem rawSzD : (Tryd.prog.info? 24).map (·.size) = some 4 := by kernel_rfl
theorem qiSizeD : (Tryd.prog.info? 31).map (·.size) = some 8 := by kernel_rfl
theorem qiZeroD : (Tryd.prog.info? 31).map (·.zero) = some (some (.agg (RqIV.arr {}))) := by kernel_rfl
theorem qiBuildD (op : Int) (has : Bool) (w : World) : (Instr.build 31 #[(0, .int .i64 op), (1, .bool has)]).run Tryd.prog w = .ok (.agg (RqIV.arr { op := op, has := has })) w := by kernel_rfl
theorem qarr_one (q : RqIV) : q.arr.all (·.oneCell') = true := by simp [RqIV.arr, Value.oneCell']
/-- The number's box, and the request's item. -/
structure MB (x : RawD) (q : RqIV) (w W : World) (b pq : Nat) : Prop where
  bx : W.heap[b]? = some (.cells x.cells 24 (0, 0))
  bq : W.heap[pq]? = some (.cells q.arr 31 (0, 0))
  ok : SlC W q.ids (q.id.map B8)
  bel : Below b w W
  lt : b ≤ pq
  sz : w.heap.size = b
  low : ∀ k ∈ q.ids.blk, k < b
theorem MB.below {x : RawD} {q : RqIV} {w W W' : World} {b pq : Nat} (h : MB x q w W b pq) (hb : Below W.heap.size W W') : MB x q w W' b pq :=
  ⟨(hb.block _ (block_lt h.bx)).trans h.bx, (hb.block _ (block_lt h.bq)).trans h.bq, h.ok.below hb, h.bel.trans (hb.mono (by have := block_lt h.bx; omega)), h.lt, h.sz, h.low⟩
theorem MB.old {x : RawD} {q : RqIV} {w W W' : World} {b pq : Nat} (h : MB x q w W b pq) (hb : Grow W W') : Below w.heap.size w W' := by
  rw [h.sz]
  exact h.bel.trans (Below.mono hb (by have := block_lt h.bx; omega))
theorem respsMakes_walk (op : Int) (has : Bool) (lb : List UInt8) (aB : Option Addr) (nB cB : Nat) (r0 : Int) (x : RawD) (hx : x.ok) (t : Int) (near : Bool) (w : World) (hsc : SlC w ⟨aB, nB, cB⟩ (lb.map B8)) (hT : NamesTab w) :
    Calls Tryd.prog 3 #[.int .i64 op, .bool has, .slice aB nB cB, .int .i64 r0, .agg x.cells, .int .i64 t, .bool near] w fun e w' => e = .returned (.bool true) ∧ Below w.heap.size w w' := by
  have HXO := hid hx
  have HTB := hid hT
  have hbw : Below w.heap.size w (w.alloc (.cells x.cells 24)) := (Below.refl _ _).alloc (Nat.le_refl _) _
  have HSC := hid (hsc.below hbw)
  have HLT := hid hsc.lt
  clear hx hT hsc
  generalize hbe : w.heap.size = b
  rw [hbe] at HLT
  have HBE := hid hbe
  clear hbe
  go_enter Tryd.func3, Tryd.ntmps3
  go_upto_region 1 with (fail)
  have H1 := hid (block_new w (.cells x.cells 24))
  have hsz : (w.alloc (.cells x.cells 24)).heap.size = w.heap.size + 1 := by simp
  rw [HBE.out] at H1 hbw hsz ⊢
  have HBW := hid hbw; have HSZ := hid hsz
  clear hbw hsz
  generalize w.alloc (.cells x.cells 24) = W at *
  go_upto_if 17 with (fail)
  go_cut [3] (fun v wx => ∃ r : Int, v = .int .i64 r ∧ W = wx)
  case first =>
    cases near with
    | false =>
      go_wp2_with fail
      go_meet
      exact ⟨r0, rfl, rfl⟩
    | true =>
      have hP : pick r0 15 = (pickN r0 15 : Int) := pickN_eq r0 15 (by omega)
      have hL := pickN_lt r0 15 (by omega)
      have hG := intsA_get [0, 1, 2, 4, 5, 6, 7, 8, 10, 11, 12, 13, 14, 256, 3] (pickN r0 15) (by simpa using hL)
      have HP := hid hP; have HL := hid hL; have HG := hid hG
      clear hP hL hG
      go_wp2_with fail
      refine (pick_any r0 15 _ (by omega) (by omega)).mono ?_
      rintro e u ⟨rfl, rfl⟩
      rw [HP.out]
      go_wp2_with (refine wpList_index_row rfl _ _ rfl Tryd.underlying25 sizeInt Tryd.underlying3 rfl (intsA [0, 1, 2, 4, 5, 6, 7, 8, 10, 11, 12, 13, 14, 256, 3]) rfl _ rfl (pickN r0 15) rfl _ HL.out HG.out ?_)
      go_meet
      exact ⟨_, rfl, rfl⟩
  case rest =>
    obtain ⟨r, rfl, rfl⟩ := hcut
    go_upto_region 4 with (first | (refine wpList_build_obj rfl 31 _ rfl #[(0, .int .i64 op), (1, .bool has)] (by simp [Act.eval]) _ (qiBuildD op has _) ?_) | (refine wpList_alloc_obj rfl 31 rfl _ qiZeroD ?_) | (refine wpList_store_obj rfl 31 _ _ rfl W.heap.size rfl (RqIV.arr { op := op, has := has }) rfl _ _ (block_new W _) rfl qiSizeD (qarr_one _) ?_; intro w4 hb4 hc4 hs4; have HB4 := hid hb4; have HC4 := hid hc4; clear hb4 hc4 hs4) | go_in)
    go_simp
    have hb4 : Below W.heap.size W w4 := ((Below.refl _ W).alloc (Nat.le_refl _) _).trans (HC4.out.below (fun k hk => by rw [List.mem_singleton.1 hk]; exact Nat.le_refl _) (by simp))
    have M1 : Hid (MB x { op := op, has := has } w w4 b W.heap.size) := ⟨(hb4.block _ (block_lt H1.out)).trans H1.out, HB4.out, SlC.nil _, HBW.out.trans (hb4.mono (by rw [HSZ.out]; omega)), by rw [HSZ.out]; omega, HBE.out, (fun k hk => by simp [Sl.blk] at hk)⟩
    have HSC4 := hid (HSC.out.below hb4)
    have HPB : Hid (b < W.heap.size) := by show _ < _; rw [HSZ.out]; omega
    clear hb4 HC4 HB4 H1 HBW HSZ HSC
    generalize W.heap.size = pq at *
    go_upto_if 25 with (fail)
    go_cut [] (fun wx => ∃ q : RqIV, MB x q w wx b pq)
    case first =>
      cases has with
      | false =>
        go_wp2_with fail
        go_meet
        exact ⟨_, M1.out⟩
      | true =>
        have c2 := cell_of_block (j := 2) M1.out.bq (xr2 _)
        have hfz : ∀ j, w4.frozen? ⟨pq, j, none⟩ = false := fun j => frozen_of_block M1.out.bq
        have hq : (w4.setCell ⟨pq, 2, none⟩ (.slice aB nB cB)).heap[pq]? = some (.cells (RqIV.arr { op := op, has := true, id := lb, ids := ⟨aB, nB, cB⟩ }) 31 (0, 0)) := block_setCell (j := 2) M1.out.bq _
        have hc : Chg [pq] w4 (w4.setCell ⟨pq, 2, none⟩ (.slice aB nB cB)) := (Chg.refl [pq] w4).setCell (.inl (by simp)) _
        have M2 : Hid (MB x { op := op, has := true, id := lb, ids := ⟨aB, nB, cB⟩ } w (w4.setCell ⟨pq, 2, none⟩ (.slice aB nB cB)) b pq) :=
          ⟨(hc.block _ (block_lt M1.out.bx) (by have := HPB.out; simp; omega)).trans M1.out.bx, hq, HSC4.out.keep hc (fun k hk hm => by have := HLT.out k hk; have := List.mem_singleton.1 hm; have := HPB.out; omega), M1.out.bel.trans (hc.below (fun k hk => by rw [List.mem_singleton.1 hk]; exact M1.out.lt) (by have := block_lt M1.out.bx; omega)), M1.out.lt, M1.out.sz, HLT.out⟩
        clear hq hc
        go_wp2_with fail
        go_meet
        exact ⟨_, M2.out⟩
    case rest =>
      obtain ⟨q, hm⟩ := hcut
      clear M1 HSC4
      rename World => wk
      have M3 := hid hm
      clear hm
      go_upto_region 6 with (fail)
      obtain ⟨z, hzw⟩ : ∃ z, z = wk.heap.size := ⟨_, rfl⟩
      have HZW := hid hzw
      clear hzw
      refine wp_region_each 6 [.eq (.pointer (some ⟨b, 0, none⟩)), .eq (.int .i64 x.kind), .eq (.string (nmL.getD (pickN x.kind 24) ⟨#[]⟩)), .eq (.agg x.cells), stNz, stNewQ 29 itZ.arr z] (by kernel_rfl) (by kernel_rfl) (by kernel_rfl) (by kernel_rfl) ?_ ?_
      · as_aux_lemma =>
          refine each_c (o' := _) ?_ (each_c (o' := _) ?_ (each_c (o' := _) ?_ (each_c (o' := _) ?_ (each_c (o' := _) ?_ (each_c (o' := _) ?_ (each_n))))))
          -- 0: fieldAddr 24 t11 0
          · intro w1 hg Ar seen
            have s11 := seen.slot 11 (v := .pointer (some ⟨b, 0, none⟩)) (by kernel_rfl) rfl
            refine does_plain rfl fun K Q' hK => ?_
            go_simp; exact hK _ _ (Grow.refl _) rfl
          -- 1: load 3 t28
          · intro w1 hg Ar seen
            obtain ⟨v0, e0, h0⟩ := seen.dep 0 (d := 28) (by kernel_rfl) (by kernel_rfl) rfl
            rcases h0 with rfl
            refine does_plain rfl fun K Q' hK => ?_
            have hc := cell_of_block (j := 0) ((hg.block _ (block_lt M3.out.bx)).trans M3.out.bx) rfl
            go_simp; exact hK _ _ (Grow.refl _) rfl
          -- 2: call fn7<locksmithhand.Name> [t29] T[3]
          · intro w1 hg Ar seen
            obtain ⟨v1, e1, h1⟩ := seen.dep 1 (d := 29) (by kernel_rfl) (by kernel_rfl) rfl
            rcases h1 with rfl
            refine does_plain rfl fun K Q' hK => ?_
            go_simp
            refine (name_any x.kind _ (HTB.out.below (M3.out.old hg))).mono ?_
            rintro e u ⟨rfl, rfl⟩
            exact hK _ _ (Grow.refl _) rfl
          -- 3: load 24 t11
          · intro w1 hg Ar seen
            have s11 := seen.slot 11 (v := .pointer (some ⟨b, 0, none⟩)) (by kernel_rfl) rfl
            refine does_plain rfl fun K Q' hK => ?_
            refine wp_load_row 24 _ rfl b (by simp [Act.eval, s11]) _ _ _ _ ((hg.block _ (block_lt M3.out.bx)).trans M3.out.bx) Tryd.underlying24 rfl rawSzD ?_
            exact hK _ _ (Grow.refl _) rfl
          -- 4: call fn6<locksmithhand.Value> [t30, t31] T[9, 24]
          · intro w1 hg Ar seen
            obtain ⟨v2, e2, h2⟩ := seen.dep 2 (d := 30) (by kernel_rfl) (by kernel_rfl) rfl
            rcases h2 with rfl
            obtain ⟨v3, e3, h3⟩ := seen.dep 3 (d := 31) (by kernel_rfl) (by kernel_rfl) rfl
            rcases h3 with rfl
            refine does_plain rfl fun K Q' hK => ?_
            go_simp
            refine (value_any _ x HXO.out _).mono ?_
            rintro e u ⟨v, rfl, hvo, hvn, hb⟩
            exact hK _ _ hb ⟨v, rfl, hvo, hvn⟩
          -- 5: alloc 29
          · intro w1 hg Ar seen
            refine does_plain rfl fun K Q' hK => ?_
            refine wp_alloc_obj 29 rfl itZ.arr iZero ?_
            exact hK _ _ ((Below.refl _ _).alloc (Nat.le_refl _) _) ⟨_, rfl, block_new _ _, Nat.le_trans (Nat.le_of_eq HZW.out) hg.size⟩
      intro w1 hg
      refine upon_w' (js := [0, 1, 2, 3, 4, 5]) (by rfl) ?_
      refine upon_c (x := some 28) (by kernel_rfl) rfl fun v0 h0 => ?_
      rcases h0 with rfl
      refine upon_c (x := some 29) (by kernel_rfl) rfl fun v1 h1 => ?_
      rcases h1 with rfl
      refine upon_c (x := some 30) (by kernel_rfl) rfl fun v2 h2 => ?_
      rcases h2 with rfl
      refine upon_c (x := some 31) (by kernel_rfl) rfl fun v3 h3 => ?_
      rcases h3 with rfl
      refine upon_c (x := some 32) (by kernel_rfl) rfl fun v4 h4 => ?_
      refine upon_c (x := some 16) (by kernel_rfl) rfl fun v5 h5 => ?_
      refine upon_n ?_
      obtain ⟨py, rfl, hpy, hzp⟩ := h5
      obtain ⟨y, rfl, hyo, hyn⟩ := h4
      have hbel := hg
      have HNF : Hid (py ∉ y.footN) := ItV.ok.notZero hpy hyo hyn
      have HP1 := hid hpy; have HY1 := hid hyo
      have M3' := hid (M3.out.below hg)
      have HPP : Hid (pq < py) := by
        have h1 := block_lt M3.out.bq
        rw [← HZW.out] at h1
        show _ < _; omega
      clear hpy hzp hyo hyn hbel hg M3
      go_simp
      go_upto_region 7 with (refine wpList_store_obj rfl 29 _ _ rfl py rfl y.arr rfl _ _ HP1.out rfl iSize (arr_one _) ?_; intro w7 hb7 hc7 hs7; have HPY := hid hb7; have HC7 := hid hc7; clear hb7 hc7 hs7)
      have HY4 := hid (ItV.ok.keepN HC7.out HY1.out (fun k hk hm => by rw [List.mem_singleton.1 hm] at hk; exact HNF.out hk))
      have M4 : Hid (MB x q w w7 b pq) := ⟨(HC7.out.block _ (block_lt M3'.out.bx) (by have := HPP.out; have := M3'.out.lt; simp; omega)).trans M3'.out.bx, (HC7.out.block _ (block_lt M3'.out.bq) (by have := HPP.out; simp; omega)).trans M3'.out.bq, M3'.out.ok.keep HC7.out (fun k hk hm => by have := M3'.out.low k hk; have := List.mem_singleton.1 hm; have := HPP.out; have := M3'.out.lt; omega), M3'.out.bel.trans (HC7.out.below (fun k hk => by rw [List.mem_singleton.1 hk]; have := HPP.out; have := M3'.out.lt; omega) (by have := block_lt M3'.out.bx; omega)), M3'.out.lt, M3'.out.sz, M3'.out.low⟩
      clear HC7 HP1 HY1 M3' HNF
      refine wp_region_each 35 [.eq (.bool true), .eq (.bool true), .eq (.agg q.arr), .eq (.int .i64 r), .eq (.agg y.arr), stRs (ofP q.rq r y.it), .eq (.agg q.arr), .eq (.int .i64 r), .eq (.agg y.arr), stRs (ofP q.rq r y.it), .eq (.bool true), .eq (.bool true), .eq (.bool true), .eq (.agg q.arr), stRs (undoP q.rq), .eq (.agg q.arr), stRs (undoP q.rq), .eq (.bool true), .eq (.bool true), .eq (.bool true), .eq (.int .i64 r), .eq (.string (wordS r)), .eq (.int .i64 r), .eq (.string (wordS r)), .eq (.bool true), .eq (.bool true), .eq (.bool true), .eq (.int .i64 t), .eq (.int .i64 r), stRv (wholeP t r), .eq (.int .i64 t), .eq (.int .i64 r), stRv (wholeP t r), .eq (.bool true), .eq (.bool true)] (by kernel_rfl) (by kernel_rfl) (by kernel_rfl) (by kernel_rfl) ?_ ?_
      · as_aux_lemma =>
          refine each_c (o' := _) ?_ (each_c (o' := _) ?_ (each_c (o' := _) ?_ (each_c (o' := _) ?_ (each_c (o' := _) ?_ (each_c (o' := _) ?_ (each_c (o' := _) ?_ (each_c (o' := _) ?_ (each_c (o' := _) ?_ (each_c (o' := _) ?_ (each_c (o' := _) ?_ (each_c (o' := _) ?_ (each_c (o' := _) ?_ (each_c (o' := _) ?_ (each_c (o' := _) ?_ (each_c (o' := _) ?_ (each_c (o' := _) ?_ (each_c (o' := _) ?_ (each_c (o' := _) ?_ (each_c (o' := _) ?_ (each_c (o' := _) ?_ (each_c (o' := _) ?_ (each_c (o' := _) ?_ (each_c (o' := _) ?_ (each_c (o' := _) ?_ (each_c (o' := _) ?_ (each_c (o' := _) ?_ (each_c (o' := _) ?_ (each_c (o' := _) ?_ (each_c (o' := _) ?_ (each_c (o' := _) ?_ (each_c (o' := _) ?_ (each_c (o' := _) ?_ (each_c (o' := _) ?_ (each_c (o' := _) ?_ (each_n)))))))))))))))))))))))))))))))))))
          -- 0: call fn8<locksmithlaw17.known> [] T[]
          · intro w1 hg Ar seen
            refine does_plain rfl fun K Q' hK => ?_
            go_simp
            refine (known17_any _).mono ?_
            rintro e u ⟨rfl, hb⟩
            exact hK _ _ hb rfl
          -- 1: move t33
          · intro w1 hg Ar seen
            obtain ⟨v0, e0, h0⟩ := seen.dep 0 (d := 33) (by kernel_rfl) (by kernel_rfl) rfl
            rcases h0 with rfl
            refine does_plain rfl fun K Q' hK => ?_
            go_simp; exact hK _ _ (Grow.refl _) rfl
          -- 2: load 31 t15
          · intro w1 hg Ar seen
            obtain ⟨v1, e1, h1⟩ := seen.dep 1 (d := 34) (by kernel_rfl) (by kernel_rfl) rfl
            rcases h1 with rfl
            have s15 := seen.slot 15 (v := .pointer (some ⟨pq, 0, none⟩)) (by kernel_rfl) rfl
            refine does_on rfl (by kernel_rfl) e1 fun K Q' hK => ?_
            clear e1
            refine wp_load_row 31 _ rfl pq (by simp [Act.eval, s15]) _ _ _ _ ((hg.block _ (block_lt M4.out.bq)).trans M4.out.bq) Tryd.underlying31 rfl qiSizeD ?_
            exact hK _ _ (Grow.refl _) rfl
          -- 3: move t3
          · intro w1 hg Ar seen
            obtain ⟨v1, e1, h1⟩ := seen.dep 1 (d := 34) (by kernel_rfl) (by kernel_rfl) rfl
            rcases h1 with rfl
            have s3 := seen.slot 3 (v := .int .i64 r) (by kernel_rfl) rfl
            refine does_on rfl (by kernel_rfl) e1 fun K Q' hK => ?_
            clear e1
            go_simp; exact hK _ _ (Grow.refl _) rfl
          -- 4: load 29 t16
          · intro w1 hg Ar seen
            obtain ⟨v1, e1, h1⟩ := seen.dep 1 (d := 34) (by kernel_rfl) (by kernel_rfl) rfl
            rcases h1 with rfl
            have s16 := seen.slot 16 (v := .pointer (some ⟨py, 0, none⟩)) (by kernel_rfl) rfl
            refine does_on rfl (by kernel_rfl) e1 fun K Q' hK => ?_
            clear e1
            refine wp_load_row 29 _ rfl py (by simp [Act.eval, s16]) _ _ _ _ ((hg.block _ (block_lt HPY.out)).trans HPY.out) Tryd.underlying29 rfl iSize ?_
            exact hK _ _ (Grow.refl _) rfl
          -- 5: call fn10<resps.Of> [t35, t36, t37] T[31, 3, 29]
          · intro w1 hg Ar seen
            obtain ⟨v2, e2, h2⟩ := seen.dep 2 (d := 35) (by kernel_rfl) (by kernel_rfl) rfl
            rcases h2 with rfl
            obtain ⟨v3, e3, h3⟩ := seen.dep 3 (d := 36) (by kernel_rfl) (by kernel_rfl) rfl
            rcases h3 with rfl
            obtain ⟨v4, e4, h4⟩ := seen.dep 4 (d := 37) (by kernel_rfl) (by kernel_rfl) rfl
            rcases h4 with rfl
            obtain ⟨v1, e1, h1⟩ := seen.dep 1 (d := 34) (by kernel_rfl) (by kernel_rfl) rfl
            rcases h1 with rfl
            refine does_on rfl (by kernel_rfl) e1 fun K Q' hK => ?_
            clear e1
            go_simp
            refine (Of_any q r y _ (M4.out.ok.below hg) (HY4.out.below hg)).mono ?_
            rintro e u ⟨v, rfl, hv, ho, hb⟩
            exact hK _ _ hb ⟨v, rfl, hv, ho⟩
          -- 6: load 31 t15
          · intro w1 hg Ar seen
            obtain ⟨v1, e1, h1⟩ := seen.dep 1 (d := 34) (by kernel_rfl) (by kernel_rfl) rfl
            rcases h1 with rfl
            have s15 := seen.slot 15 (v := .pointer (some ⟨pq, 0, none⟩)) (by kernel_rfl) rfl
            refine does_on rfl (by kernel_rfl) e1 fun K Q' hK => ?_
            clear e1
            refine wp_load_row 31 _ rfl pq (by simp [Act.eval, s15]) _ _ _ _ ((hg.block _ (block_lt M4.out.bq)).trans M4.out.bq) Tryd.underlying31 rfl qiSizeD ?_
            exact hK _ _ (Grow.refl _) rfl
          -- 7: move t3
          · intro w1 hg Ar seen
            obtain ⟨v1, e1, h1⟩ := seen.dep 1 (d := 34) (by kernel_rfl) (by kernel_rfl) rfl
            rcases h1 with rfl
            have s3 := seen.slot 3 (v := .int .i64 r) (by kernel_rfl) rfl
            refine does_on rfl (by kernel_rfl) e1 fun K Q' hK => ?_
            clear e1
            go_simp; exact hK _ _ (Grow.refl _) rfl
          -- 8: load 29 t16
          · intro w1 hg Ar seen
            obtain ⟨v1, e1, h1⟩ := seen.dep 1 (d := 34) (by kernel_rfl) (by kernel_rfl) rfl
            rcases h1 with rfl
            have s16 := seen.slot 16 (v := .pointer (some ⟨py, 0, none⟩)) (by kernel_rfl) rfl
            refine does_on rfl (by kernel_rfl) e1 fun K Q' hK => ?_
            clear e1
            refine wp_load_row 29 _ rfl py (by simp [Act.eval, s16]) _ _ _ _ ((hg.block _ (block_lt HPY.out)).trans HPY.out) Tryd.underlying29 rfl iSize ?_
            exact hK _ _ (Grow.refl _) rfl
          -- 9: call fn11<locksmithref15.OfItem> [t39, t40, t41] T[31, 3, 29]
          · intro w1 hg Ar seen
            obtain ⟨v6, e6, h6⟩ := seen.dep 6 (d := 39) (by kernel_rfl) (by kernel_rfl) rfl
            rcases h6 with rfl
            obtain ⟨v7, e7, h7⟩ := seen.dep 7 (d := 40) (by kernel_rfl) (by kernel_rfl) rfl
            rcases h7 with rfl
            obtain ⟨v8, e8, h8⟩ := seen.dep 8 (d := 41) (by kernel_rfl) (by kernel_rfl) rfl
            rcases h8 with rfl
            obtain ⟨v1, e1, h1⟩ := seen.dep 1 (d := 34) (by kernel_rfl) (by kernel_rfl) rfl
            rcases h1 with rfl
            refine does_on rfl (by kernel_rfl) e1 fun K Q' hK => ?_
            clear e1
            go_simp
            refine (refOfItem_any q r y _ (M4.out.ok.below hg) (HY4.out.below hg)).mono ?_
            rintro e u ⟨v, rfl, hv, ho, hb⟩
            exact hK _ _ hb ⟨v, rfl, hv, ho⟩
          -- 10: call fn9<locksmithref15.SameItem> [t38, t42] T[37, 37]
          · intro w1 hg Ar seen
            obtain ⟨v5, e5, h5⟩ := seen.dep 5 (d := 38) (by kernel_rfl) (by kernel_rfl) rfl
            obtain ⟨v9, e9, h9⟩ := seen.dep 9 (d := 42) (by kernel_rfl) (by kernel_rfl) rfl
            obtain ⟨v1, e1, h1⟩ := seen.dep 1 (d := 34) (by kernel_rfl) (by kernel_rfl) rfl
            rcases h1 with rfl
            refine does_on rfl (by kernel_rfl) e1 fun K Q' hK => ?_
            clear e1
            obtain ⟨u5, rfl, hu5, ho5⟩ := h5
            obtain ⟨u9, rfl, hu9, ho9⟩ := h9
            go_simp
            refine (rsameItem_any u5 u9 _ ho5 ho9 (hu5.trans hu9.symm)).mono ?_
            rintro e u ⟨rfl, hb⟩
            exact hK _ _ hb rfl
          -- 11: pick t34 t43 false
          · intro w1 hg Ar seen
            obtain ⟨v1, e1, h1⟩ := seen.dep 1 (d := 34) (by kernel_rfl) (by kernel_rfl) rfl
            rcases h1 with rfl
            obtain ⟨v10, e10, h10⟩ := seen.dep 10 (d := 43) (by kernel_rfl) (by kernel_rfl) rfl
            rcases h10 with rfl
            refine does_plain rfl fun K Q' hK => ?_
            go_simp; exact hK _ _ (Grow.refl _) rfl
          -- 12: move t44
          · intro w1 hg Ar seen
            obtain ⟨v11, e11, h11⟩ := seen.dep 11 (d := 44) (by kernel_rfl) (by kernel_rfl) rfl
            rcases h11 with rfl
            refine does_plain rfl fun K Q' hK => ?_
            go_simp; exact hK _ _ (Grow.refl _) rfl
          -- 13: load 31 t15
          · intro w1 hg Ar seen
            obtain ⟨v12, e12, h12⟩ := seen.dep 12 (d := 45) (by kernel_rfl) (by kernel_rfl) rfl
            rcases h12 with rfl
            have s15 := seen.slot 15 (v := .pointer (some ⟨pq, 0, none⟩)) (by kernel_rfl) rfl
            refine does_on rfl (by kernel_rfl) e12 fun K Q' hK => ?_
            clear e12
            refine wp_load_row 31 _ rfl pq (by simp [Act.eval, s15]) _ _ _ _ ((hg.block _ (block_lt M4.out.bq)).trans M4.out.bq) Tryd.underlying31 rfl qiSizeD ?_
            exact hK _ _ (Grow.refl _) rfl
          -- 14: call fn12<resps.Undo> [t46] T[31]
          · intro w1 hg Ar seen
            obtain ⟨v13, e13, h13⟩ := seen.dep 13 (d := 46) (by kernel_rfl) (by kernel_rfl) rfl
            rcases h13 with rfl
            obtain ⟨v12, e12, h12⟩ := seen.dep 12 (d := 45) (by kernel_rfl) (by kernel_rfl) rfl
            rcases h12 with rfl
            refine does_on rfl (by kernel_rfl) e12 fun K Q' hK => ?_
            clear e12
            go_simp
            refine (Undo_any q _ (M4.out.ok.below hg)).mono ?_
            rintro e u ⟨v, rfl, hv, ho, hb⟩
            exact hK _ _ hb ⟨v, rfl, hv, ho⟩
          -- 15: load 31 t15
          · intro w1 hg Ar seen
            obtain ⟨v12, e12, h12⟩ := seen.dep 12 (d := 45) (by kernel_rfl) (by kernel_rfl) rfl
            rcases h12 with rfl
            have s15 := seen.slot 15 (v := .pointer (some ⟨pq, 0, none⟩)) (by kernel_rfl) rfl
            refine does_on rfl (by kernel_rfl) e12 fun K Q' hK => ?_
            clear e12
            refine wp_load_row 31 _ rfl pq (by simp [Act.eval, s15]) _ _ _ _ ((hg.block _ (block_lt M4.out.bq)).trans M4.out.bq) Tryd.underlying31 rfl qiSizeD ?_
            exact hK _ _ (Grow.refl _) rfl
          -- 16: call fn13<locksmithref15.Undo> [t48] T[31]
          · intro w1 hg Ar seen
            obtain ⟨v15, e15, h15⟩ := seen.dep 15 (d := 48) (by kernel_rfl) (by kernel_rfl) rfl
            rcases h15 with rfl
            obtain ⟨v12, e12, h12⟩ := seen.dep 12 (d := 45) (by kernel_rfl) (by kernel_rfl) rfl
            rcases h12 with rfl
            refine does_on rfl (by kernel_rfl) e12 fun K Q' hK => ?_
            clear e12
            go_simp
            refine (refUndo_any q _ (M4.out.ok.below hg)).mono ?_
            rintro e u ⟨v, rfl, hv, ho, hb⟩
            exact hK _ _ hb ⟨v, rfl, hv, ho⟩
          -- 17: call fn9<locksmithref15.SameItem> [t47, t49] T[37, 37]
          · intro w1 hg Ar seen
            obtain ⟨v14, e14, h14⟩ := seen.dep 14 (d := 47) (by kernel_rfl) (by kernel_rfl) rfl
            obtain ⟨v16, e16, h16⟩ := seen.dep 16 (d := 49) (by kernel_rfl) (by kernel_rfl) rfl
            obtain ⟨v12, e12, h12⟩ := seen.dep 12 (d := 45) (by kernel_rfl) (by kernel_rfl) rfl
            rcases h12 with rfl
            refine does_on rfl (by kernel_rfl) e12 fun K Q' hK => ?_
            clear e12
            obtain ⟨u14, rfl, hu14, ho14⟩ := h14
            obtain ⟨u16, rfl, hu16, ho16⟩ := h16
            go_simp
            refine (rsameItem_any u14 u16 _ ho14 ho16 (hu14.trans hu16.symm)).mono ?_
            rintro e u ⟨rfl, hb⟩
            exact hK _ _ hb rfl
          -- 18: pick t45 t50 false
          · intro w1 hg Ar seen
            obtain ⟨v12, e12, h12⟩ := seen.dep 12 (d := 45) (by kernel_rfl) (by kernel_rfl) rfl
            rcases h12 with rfl
            obtain ⟨v17, e17, h17⟩ := seen.dep 17 (d := 50) (by kernel_rfl) (by kernel_rfl) rfl
            rcases h17 with rfl
            refine does_plain rfl fun K Q' hK => ?_
            go_simp; exact hK _ _ (Grow.refl _) rfl
          -- 19: move t51
          · intro w1 hg Ar seen
            obtain ⟨v18, e18, h18⟩ := seen.dep 18 (d := 51) (by kernel_rfl) (by kernel_rfl) rfl
            rcases h18 with rfl
            refine does_plain rfl fun K Q' hK => ?_
            go_simp; exact hK _ _ (Grow.refl _) rfl
          -- 20: move t3
          · intro w1 hg Ar seen
            obtain ⟨v19, e19, h19⟩ := seen.dep 19 (d := 52) (by kernel_rfl) (by kernel_rfl) rfl
            rcases h19 with rfl
            have s3 := seen.slot 3 (v := .int .i64 r) (by kernel_rfl) rfl
            refine does_on rfl (by kernel_rfl) e19 fun K Q' hK => ?_
            clear e19
            go_simp; exact hK _ _ (Grow.refl _) rfl
          -- 21: call fn14<resps.Word> [t53] T[3]
          · intro w1 hg Ar seen
            obtain ⟨v20, e20, h20⟩ := seen.dep 20 (d := 53) (by kernel_rfl) (by kernel_rfl) rfl
            rcases h20 with rfl
            obtain ⟨v19, e19, h19⟩ := seen.dep 19 (d := 52) (by kernel_rfl) (by kernel_rfl) rfl
            rcases h19 with rfl
            refine does_on rfl (by kernel_rfl) e19 fun K Q' hK => ?_
            clear e19
            go_simp
            refine (word_any r _).mono ?_
            rintro e u ⟨rfl, rfl⟩
            exact hK _ _ (Grow.refl _) rfl
          -- 22: move t3
          · intro w1 hg Ar seen
            obtain ⟨v19, e19, h19⟩ := seen.dep 19 (d := 52) (by kernel_rfl) (by kernel_rfl) rfl
            rcases h19 with rfl
            have s3 := seen.slot 3 (v := .int .i64 r) (by kernel_rfl) rfl
            refine does_on rfl (by kernel_rfl) e19 fun K Q' hK => ?_
            clear e19
            go_simp; exact hK _ _ (Grow.refl _) rfl
          -- 23: call fn15<locksmithref15.Word> [t55] T[3]
          · intro w1 hg Ar seen
            obtain ⟨v22, e22, h22⟩ := seen.dep 22 (d := 55) (by kernel_rfl) (by kernel_rfl) rfl
            rcases h22 with rfl
            obtain ⟨v19, e19, h19⟩ := seen.dep 19 (d := 52) (by kernel_rfl) (by kernel_rfl) rfl
            rcases h19 with rfl
            refine does_on rfl (by kernel_rfl) e19 fun K Q' hK => ?_
            clear e19
            go_simp
            refine (refWord_any r _).mono ?_
            rintro e u ⟨rfl, rfl⟩
            exact hK _ _ (Grow.refl _) rfl
          -- 24: binOp BinOp.eql 9 t54 t56 9
          · intro w1 hg Ar seen
            obtain ⟨v21, e21, h21⟩ := seen.dep 21 (d := 54) (by kernel_rfl) (by kernel_rfl) rfl
            rcases h21 with rfl
            obtain ⟨v23, e23, h23⟩ := seen.dep 23 (d := 56) (by kernel_rfl) (by kernel_rfl) rfl
            rcases h23 with rfl
            obtain ⟨v19, e19, h19⟩ := seen.dep 19 (d := 52) (by kernel_rfl) (by kernel_rfl) rfl
            rcases h19 with rfl
            refine does_on rfl (by kernel_rfl) e19 fun K Q' hK => ?_
            clear e19
            go_simp; exact hK _ _ (Grow.refl _) rfl
          -- 25: pick t52 t57 false
          · intro w1 hg Ar seen
            obtain ⟨v19, e19, h19⟩ := seen.dep 19 (d := 52) (by kernel_rfl) (by kernel_rfl) rfl
            rcases h19 with rfl
            obtain ⟨v24, e24, h24⟩ := seen.dep 24 (d := 57) (by kernel_rfl) (by kernel_rfl) rfl
            rcases h24 with rfl
            refine does_plain rfl fun K Q' hK => ?_
            go_simp; exact hK _ _ (Grow.refl _) rfl
          -- 26: move t58
          · intro w1 hg Ar seen
            obtain ⟨v25, e25, h25⟩ := seen.dep 25 (d := 58) (by kernel_rfl) (by kernel_rfl) rfl
            rcases h25 with rfl
            refine does_plain rfl fun K Q' hK => ?_
            go_simp; exact hK _ _ (Grow.refl _) rfl
          -- 27: move t5
          · intro w1 hg Ar seen
            obtain ⟨v26, e26, h26⟩ := seen.dep 26 (d := 59) (by kernel_rfl) (by kernel_rfl) rfl
            rcases h26 with rfl
            have s5 := seen.slot 5 (v := .int .i64 t) (by kernel_rfl) rfl
            refine does_on rfl (by kernel_rfl) e26 fun K Q' hK => ?_
            clear e26
            go_simp; exact hK _ _ (Grow.refl _) rfl
          -- 28: move t3
          · intro w1 hg Ar seen
            obtain ⟨v26, e26, h26⟩ := seen.dep 26 (d := 59) (by kernel_rfl) (by kernel_rfl) rfl
            rcases h26 with rfl
            have s3 := seen.slot 3 (v := .int .i64 r) (by kernel_rfl) rfl
            refine does_on rfl (by kernel_rfl) e26 fun K Q' hK => ?_
            clear e26
            go_simp; exact hK _ _ (Grow.refl _) rfl
          -- 29: call fn17<resps.Whole> [t60, t61] T[2, 3]
          · intro w1 hg Ar seen
            obtain ⟨v27, e27, h27⟩ := seen.dep 27 (d := 60) (by kernel_rfl) (by kernel_rfl) rfl
            rcases h27 with rfl
            obtain ⟨v28, e28, h28⟩ := seen.dep 28 (d := 61) (by kernel_rfl) (by kernel_rfl) rfl
            rcases h28 with rfl
            obtain ⟨v26, e26, h26⟩ := seen.dep 26 (d := 59) (by kernel_rfl) (by kernel_rfl) rfl
            rcases h26 with rfl
            refine does_on rfl (by kernel_rfl) e26 fun K Q' hK => ?_
            clear e26
            go_simp
            refine (Whole_any t r _).mono ?_
            rintro e u ⟨v, rfl, hv, ho, _, hb⟩
            exact hK _ _ hb ⟨v, rfl, hv, ho⟩
          -- 30: move t5
          · intro w1 hg Ar seen
            obtain ⟨v26, e26, h26⟩ := seen.dep 26 (d := 59) (by kernel_rfl) (by kernel_rfl) rfl
            rcases h26 with rfl
            have s5 := seen.slot 5 (v := .int .i64 t) (by kernel_rfl) rfl
            refine does_on rfl (by kernel_rfl) e26 fun K Q' hK => ?_
            clear e26
            go_simp; exact hK _ _ (Grow.refl _) rfl
          -- 31: move t3
          · intro w1 hg Ar seen
            obtain ⟨v26, e26, h26⟩ := seen.dep 26 (d := 59) (by kernel_rfl) (by kernel_rfl) rfl
            rcases h26 with rfl
            have s3 := seen.slot 3 (v := .int .i64 r) (by kernel_rfl) rfl
            refine does_on rfl (by kernel_rfl) e26 fun K Q' hK => ?_
            clear e26
            go_simp; exact hK _ _ (Grow.refl _) rfl
          -- 32: call fn18<locksmithref15.Whole> [t63, t64] T[2, 3]
          · intro w1 hg Ar seen
            obtain ⟨v30, e30, h30⟩ := seen.dep 30 (d := 63) (by kernel_rfl) (by kernel_rfl) rfl
            rcases h30 with rfl
            obtain ⟨v31, e31, h31⟩ := seen.dep 31 (d := 64) (by kernel_rfl) (by kernel_rfl) rfl
            rcases h31 with rfl
            obtain ⟨v26, e26, h26⟩ := seen.dep 26 (d := 59) (by kernel_rfl) (by kernel_rfl) rfl
            rcases h26 with rfl
            refine does_on rfl (by kernel_rfl) e26 fun K Q' hK => ?_
            clear e26
            go_simp
            refine (refWhole_any t r _).mono ?_
            rintro e u ⟨v, rfl, hv, ho, _, hb⟩
            exact hK _ _ hb ⟨v, rfl, hv, ho⟩
          -- 33: call fn16<locksmithref15.SameResponse> [t62, t65] T[43, 43]
          · intro w1 hg Ar seen
            obtain ⟨v29, e29, h29⟩ := seen.dep 29 (d := 62) (by kernel_rfl) (by kernel_rfl) rfl
            obtain ⟨v32, e32, h32⟩ := seen.dep 32 (d := 65) (by kernel_rfl) (by kernel_rfl) rfl
            obtain ⟨v26, e26, h26⟩ := seen.dep 26 (d := 59) (by kernel_rfl) (by kernel_rfl) rfl
            rcases h26 with rfl
            refine does_on rfl (by kernel_rfl) e26 fun K Q' hK => ?_
            clear e26
            obtain ⟨u29, rfl, hu29, ho29⟩ := h29
            obtain ⟨u32, rfl, hu32, ho32⟩ := h32
            go_simp
            refine (rsame_any u29 u32 _ ho29 ho32 (hu29.trans hu32.symm)).mono ?_
            rintro e u ⟨rfl, hb⟩
            exact hK _ _ hb rfl
          -- 34: pick t59 t66 false
          · intro w1 hg Ar seen
            obtain ⟨v26, e26, h26⟩ := seen.dep 26 (d := 59) (by kernel_rfl) (by kernel_rfl) rfl
            rcases h26 with rfl
            obtain ⟨v33, e33, h33⟩ := seen.dep 33 (d := 66) (by kernel_rfl) (by kernel_rfl) rfl
            rcases h33 with rfl
            refine does_plain rfl fun K Q' hK => ?_
            go_simp; exact hK _ _ (Grow.refl _) rfl
      intro w1 hg
      refine upon_w' (js := [0, 1, 2, 3, 4, 5, 6, 7, 8, 9, 10, 11, 12, 13, 14, 15, 16, 17, 18, 19, 20, 21, 22, 23, 24, 25, 26, 27, 28, 29, 30, 31, 32, 33, 34]) (by rfl) ?_
      refine upon_c (x := some 33) (by kernel_rfl) rfl fun v0 h0 => ?_
      rcases h0 with rfl
      refine upon_c (x := some 34) (by kernel_rfl) rfl fun v1 h1 => ?_
      rcases h1 with rfl
      refine upon_c (x := some 35) (by kernel_rfl) rfl fun v2 h2 => ?_
      rcases h2 with rfl
      refine upon_c (x := some 36) (by kernel_rfl) rfl fun v3 h3 => ?_
      rcases h3 with rfl
      refine upon_c (x := some 37) (by kernel_rfl) rfl fun v4 h4 => ?_
      rcases h4 with rfl
      refine upon_c (x := some 38) (by kernel_rfl) rfl fun v5 h5 => ?_
      refine upon_c (x := some 39) (by kernel_rfl) rfl fun v6 h6 => ?_
      rcases h6 with rfl
      refine upon_c (x := some 40) (by kernel_rfl) rfl fun v7 h7 => ?_
      rcases h7 with rfl
      refine upon_c (x := some 41) (by kernel_rfl) rfl fun v8 h8 => ?_
      rcases h8 with rfl
      refine upon_c (x := some 42) (by kernel_rfl) rfl fun v9 h9 => ?_
      refine upon_c (x := some 43) (by kernel_rfl) rfl fun v10 h10 => ?_
      rcases h10 with rfl
      refine upon_c (x := some 44) (by kernel_rfl) rfl fun v11 h11 => ?_
      rcases h11 with rfl
      refine upon_c (x := some 45) (by kernel_rfl) rfl fun v12 h12 => ?_
      rcases h12 with rfl
      refine upon_c (x := some 46) (by kernel_rfl) rfl fun v13 h13 => ?_
      rcases h13 with rfl
      refine upon_c (x := some 47) (by kernel_rfl) rfl fun v14 h14 => ?_
      refine upon_c (x := some 48) (by kernel_rfl) rfl fun v15 h15 => ?_
      rcases h15 with rfl
      refine upon_c (x := some 49) (by kernel_rfl) rfl fun v16 h16 => ?_
      refine upon_c (x := some 50) (by kernel_rfl) rfl fun v17 h17 => ?_
      rcases h17 with rfl
      refine upon_c (x := some 51) (by kernel_rfl) rfl fun v18 h18 => ?_
      rcases h18 with rfl
      refine upon_c (x := some 52) (by kernel_rfl) rfl fun v19 h19 => ?_
      rcases h19 with rfl
      refine upon_c (x := some 53) (by kernel_rfl) rfl fun v20 h20 => ?_
      rcases h20 with rfl
      refine upon_c (x := some 54) (by kernel_rfl) rfl fun v21 h21 => ?_
      rcases h21 with rfl
      refine upon_c (x := some 55) (by kernel_rfl) rfl fun v22 h22 => ?_
      rcases h22 with rfl
      refine upon_c (x := some 56) (by kernel_rfl) rfl fun v23 h23 => ?_
      rcases h23 with rfl
      refine upon_c (x := some 57) (by kernel_rfl) rfl fun v24 h24 => ?_
      rcases h24 with rfl
      refine upon_c (x := some 58) (by kernel_rfl) rfl fun v25 h25 => ?_
      rcases h25 with rfl
      refine upon_c (x := some 59) (by kernel_rfl) rfl fun v26 h26 => ?_
      rcases h26 with rfl
      refine upon_c (x := some 60) (by kernel_rfl) rfl fun v27 h27 => ?_
      rcases h27 with rfl
      refine upon_c (x := some 61) (by kernel_rfl) rfl fun v28 h28 => ?_
      rcases h28 with rfl
      refine upon_c (x := some 62) (by kernel_rfl) rfl fun v29 h29 => ?_
      refine upon_c (x := some 63) (by kernel_rfl) rfl fun v30 h30 => ?_
      rcases h30 with rfl
      refine upon_c (x := some 64) (by kernel_rfl) rfl fun v31 h31 => ?_
      rcases h31 with rfl
      refine upon_c (x := some 65) (by kernel_rfl) rfl fun v32 h32 => ?_
      refine upon_c (x := some 66) (by kernel_rfl) rfl fun v33 h33 => ?_
      rcases h33 with rfl
      refine upon_c (x := some 67) (by kernel_rfl) rfl fun v34 h34 => ?_
      rcases h34 with rfl
      refine upon_n ?_
      have hbel := M4.out.old hg
      rw [HBE.out] at hbel
      clear h5 h9 h14 h16 h29 h32
      go_wp2_with fail
      go_ret
      exact ⟨rfl, hbel⟩
end Go.Proofs.YtfcobmncbnkppaaDoor
