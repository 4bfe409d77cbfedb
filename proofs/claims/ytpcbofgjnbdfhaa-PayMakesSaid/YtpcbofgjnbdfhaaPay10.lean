/- PayMakes: the walk. -/
import Derived.Test.YtpcbofgjnbdfhaaPay9
import Derived.Test.YtpcbofgjnbdfhaaStr
namespace Go.Proofs.Ytpcbofgjnbdfhaa
open Go.RowKit
set_option linter.unusedVariables false
set_option linter.unusedSimpArgs false
set_option maxRecDepth 100000
set_option maxHeartbeats 3200000
def stMade (it : Itm) : St Grow := ⟨fun v w => ∃ x : ItV, v = .agg x.arr ∧ x.it = it ∧ x.ok w, fun v w w' h hg => let ⟨x, e, h1, h2⟩ := h; ⟨x, e, h1, h2.below hg⟩⟩
def stKidRow (T : TypeId) (l : List ItV) : St Grow := ⟨fun v w => ∃ so : Sl, v = .slice so.a so.n so.c ∧ SlR w so 5 (itmCells l) ∧ ∀ x ∈ l, x.ok w, fun v w w' h hg => let ⟨so, e, h1, h2⟩ := h; ⟨so, e, h1.below hg, fun x hx => (h2 x hx).below hg⟩⟩
def stOfRow (tag : Int) (l : List ItV) : St Grow := ⟨fun v w => ∃ so : Sl, v = .agg (ItV.arr { tag := tag, typ := 1, ks := so }) ∧ SlR w so 5 (itmCells l) ∧ ∀ x ∈ l, x.ok w, fun v w w' h hg => let ⟨so, e, h1, h2⟩ := h; ⟨so, e, h1.below hg, fun x hx => (h2 x hx).below hg⟩⟩
theorem it_kids2 (t y : Int) (s : Sl) (l : List ItV) : ItV.it { tag := t, typ := y, ks := s, kids := l } = { tag := t, typ := y, kids := l.map ItV.it } := by rw [ItV.it_eq]
theorem kids8_len (l : List RawD) : ((l.take 8).map kidV).length ≤ 8 := by rw [List.length_map, List.length_take]; omega
/-- What stands in PayMakes: the copy 'own', the item x and its data's row, the argument b. -/
structure PMk (T U : TypeId) (w W : World) (z1 px : Nat) (a1 : Option Addr) (nB : Nat) (c1 : Nat) (tag : Int) (s2 : Sl) (lb l2 : List UInt8) (aB : Option Addr) (cB : Nat) : Prop where
  bel : Below w.heap.size w W
  own1 : W.ownsRow w.heap.size U 1 (.slice a1 nB c1) nB (lb.map B8)
  own2 : W.ownsRow z1 U 1 (.slice s2.a s2.n s2.c) s2.n (l2.map B8)
  xb : W.heap[px]? = some (.cells (ItV.arr { tag := tag, typ := 8, data := lb, ds := s2 }) T (0, 0))
  arg : SlC W ⟨aB, nB, cB⟩ (lb.map B8)
theorem PMk.below {T U : TypeId} {w W W' : World} {z1 px : Nat} {a1 : Option Addr} {nB c1 : Nat} {tag : Int} {s2 : Sl} {lb l2 : List UInt8} {aB : Option Addr} {cB : Nat} (h : PMk T U w W z1 px a1 nB c1 tag s2 lb l2 aB cB) (hb : Below W.heap.size W W') : PMk T U w W' z1 px a1 nB c1 tag s2 lb l2 aB cB :=
  ⟨grow_on h.bel hb, (Chg.of_below hb []).owns h.own1 (fun k _ hm => by cases hm), (Chg.of_below hb []).owns h.own2 (fun k _ hm => by cases hm), (hb.block _ (block_lt h.xb)).trans h.xb, h.arg.below hb⟩
theorem PMk.okx {T U : TypeId} {w W : World} {z1 px : Nat} {a1 : Option Addr} {nB c1 : Nat} {tag : Int} {s2 : Sl} {lb : List UInt8} {aB : Option Addr} {cB : Nat} (h : PMk T U w W z1 px a1 nB c1 tag s2 lb lb aB cB) (hn : s2.n ≤ 140737488355328) : ItV.ok W { tag := tag, typ := 8, data := lb, ds := s2 } := ok_flat (SlC.of_own h.own2 hn)
theorem payMakes_walk (tag : Int) (s : ByteArray) (hs : s.size ≤ 140737488351232) (aB : Option Addr) (nB cB : Nat) (lb : List UInt8) (kind n : Int) (l : List RawD) (aL : Option Addr) (nL cL : Nat) (w : World)
    (hb : RdB w aB nB lb) (hbc : nB ≤ cB) (hcb : cB ≤ 140737488355328) (hnb : aB = none → cB = 0) (hsc : SlC w ⟨aB, nB, cB⟩ (lb.map B8)) (hal : ArgSl 4 RawR w (.slice aL nL cL) l) :
    Calls Try.prog 4 #[.int .i64 tag, .string s, .slice aB nB cB, .int .i64 kind, .int .i64 n, .slice aL nL cL] w fun e w' => e = .returned (.bool true) ∧ Below w.heap.size w w' := by
  have HBA := hid hb; have HAL := hid hal; have HNB := hid hnb
  have hlen := hb.len
  have HLEN := hid hlen
  have HBC := hid hsc
  clear hb hal hnb hlen hsc
  go_enter Try.func4, Try.ntmps4
  go_wp2_with fail
  refine (few_all aB nB cB lb _ HBA.out hbc (by omega) HNB.out).mono ?_
  rintro e w1 ⟨a1, c1, rfl, ho1, hb1⟩
  have HO1 := hid ho1; have B := hid hb1
  have HLOW1 := hid (fun q hq => (ho1.lt q hq).2)
  have hs1 : SlC w1 ⟨a1, nB, c1⟩ (lb.map B8) := SlC.of_own ho1 (by simp only; omega)
  have HS1 := hid hs1
  clear ho1 hb1 hs1
  go_wp2_with fail
  refine (payBytes_any tag ⟨a1, nB, c1⟩ lb _ HS1.out).mono ?_
  rintro e w2 ⟨s2, rfl, hn2, ho2, hb2⟩
  have B2 := hid (grow_on B.out hb2); have HO2 := hid ho2
  have HZ2 := hid hb2.size
  have HZ12 := hid hb2.size
  have HO1' := hid ((Chg.of_below hb2 []).owns HO1.out (fun k _ hm => by cases hm))
  have hn2b : s2.n = nB := by rw [hn2]; exact HLEN.out
  have HN2 := hid hn2b
  have HBZ := hid B.out.size
  clear hn2 hn2b ho2 hb2 HO1 HS1 B
  have OX : Hid (ItV.ok w2 { tag := tag, typ := 8, data := lb, ds := s2 }) := ok_flat (SlC.of_own HO2.out (by have := HN2.out; omega))
  have HOL : Hid (∀ q, (Value.slice a1 nB c1).ownBlock = some q → q < w1.heap.size) := HLOW1.out
  have HAL2 := hid (raws_below HAL.out B2.out)
  have HBA2 := hid (SlC.below (w := w) (s := ⟨aB, nB, cB⟩) (xs := lb.map B8) HBC.out B2.out)
  have HZZ := hid (Nat.le_trans HBZ.out HZ2.out)
  clear HZ2 HBA HAL HLOW1
  generalize w1.heap.size = z1 at *
  go_upto_region 3 with (first | (refine wpList_alloc_obj rfl 33 rfl _ iZero ?_) | (refine wpList_store_obj rfl 33 _ _ rfl w2.heap.size rfl _ rfl _ _ (block_new w2 _) rfl iSize (arr_one _) ?_; intro w3 hb3 hc3 hs3; have HB3 := hid hb3; have HC3 := hid hc3; clear hb3 hc3 hs3))
  have hbel : Below w2.heap.size w2 w3 := ((Below.refl _ w2).alloc (Nat.le_refl _) _).trans (HC3.out.below (fun k hk => by rw [List.mem_singleton.1 hk]; exact Nat.le_refl _) (by simp))
  have HPX : Hid (w.heap.size ≤ z1 ∧ z1 ≤ w2.heap.size ∧ (∀ q, (Value.slice s2.a s2.n s2.c).ownBlock = some q → q < w2.heap.size)) := ⟨HBZ.out, HZ12.out, fun q hq => (HO2.out.lt q hq).2⟩
  have M3 : Hid (PMk 33 5 w w3 z1 w2.heap.size a1 nB c1 tag s2 lb lb aB cB) := ⟨grow_on B2.out hbel, (Chg.of_below hbel []).owns HO1'.out (fun k _ hm => by cases hm), (Chg.of_below hbel []).owns HO2.out (fun k _ hm => by cases hm), HB3.out, HBA2.out.below hbel⟩
  have HAL3 := hid (raws_below HAL2.out hbel)
  have HDS := hid (SlC.of_own HO2.out (by have := HN2.out; omega)).no
  clear hbel HC3 B2 OX HO1' HO2 HAL2 HBA2 HZ12 HBZ HZZ HB3
  generalize w2.heap.size = px at *
  go_wp2_with fail
  refine (kids_any l aL nL cL _ HAL3.out).mono ?_
  rintro e w4 ⟨so, rfl, how, hb4⟩
  have M4 := hid (M3.out.below hb4); have HAL4 := hid (raws_below HAL3.out hb4)
  have HOW := hid how
  have HSO : Hid (so.n ≤ 8) := by show _ ≤ _; rw [← how.len]; exact kids8_len l
  clear how hb4 M3 HAL3
  go_wp2_with fail
  refine (payOf_any tag so ((l.take 8).map kidV) _ (HOW.out.sl (by have := HSO.out; omega)) HOW.out.ok).mono ?_
  rintro e w5 ⟨vy, rfl, hiy, hoy, -, hb5⟩
  have M5 := hid (M4.out.below hb5); have HAL5 := hid (raws_below HAL4.out hb5); have OY := hid hoy
  have IY : Hid (vy.it = { tag := tag, typ := 1, kids := (l.take 8).map kidOf }) := by show _ = _; rw [hiy, List.map_map]; congr 1
  clear hiy hoy hb5 M4 HAL4 HOW HSO
  go_upto_region 4 with (first | (refine wpList_alloc_obj rfl 33 rfl _ iZero ?_) | (refine wpList_store_obj rfl 33 _ _ rfl w5.heap.size rfl _ rfl _ _ (block_new w5 _) rfl iSize (arr_one vy) ?_; intro w6 hb6 hc6 hs6; have HB6 := hid hb6; have HC6 := hid hc6; clear hb6 hc6 hs6))
  have hbel : Below w5.heap.size w5 w6 := ((Below.refl _ w5).alloc (Nat.le_refl _) _).trans (HC6.out.below (fun k hk => by rw [List.mem_singleton.1 hk]; exact Nat.le_refl _) (by simp))
  have M6 := hid (M5.out.below hbel); have HAL6 := hid (raws_below HAL5.out hbel); have OY6 := hid (OY.out.below hbel)
  clear hbel HC6 M5 HAL5 OY
  generalize w5.heap.size = py at *
  refine wp_region_each 41 [.eq (.bool true), .eq (.bool false), .eq (.bool false), .eq (.agg (ItV.arr { tag := tag, typ := 8, data := lb, ds := s2 })), .eq (.int .i64 tag), .eq (.slice aB nB cB), .eq (.agg (ItV.arr { tag := tag, typ := 8, data := lb, ds := ⟨aB, nB, cB⟩ })), .eq (.bool true), .eq (.bool false), .eq (.bool false), .eq (.bool false), .eq (.int .i64 tag), .eq (.string s), stMade { tag := tag, typ := 7, data := s.data.toList }, .eq (.int .i64 tag), .eq (.string s), stMade { tag := tag, typ := 7, data := s.data.toList }, .eq (.bool true), .eq (.bool false), .eq (.bool false), .eq (.bool false), .eq (.int .i64 tag), .eq (.int .i64 kind), .eq (.int .i64 n), .eq (.agg (ItV.arr { tag := tag, typ := kind, int := n })), .eq (.int .i64 tag), .eq (.int .i64 kind), .eq (.int .i64 n), .eq (.agg (ItV.arr { tag := tag, typ := kind, int := n })), .eq (.bool true), .eq (.bool false), .eq (.bool false), .eq (.bool false), .eq (.agg vy.arr), .eq (.int .i64 tag), .eq (.slice aL nL cL), stKidRow 33 ((l.take 8).map kidV), stOfRow tag ((l.take 8).map kidV), .eq (.bool true), .eq (.bool false), .eq (.bool false)] (by kernel_rfl) (by kernel_rfl) (by kernel_rfl) (by kernel_rfl) ?_ ?_
  · as_aux_lemma =>
      refine each_c (o' := _) ?_ (each_c (o' := _) ?_ (each_c (o' := _) ?_ (each_c (o' := _) ?_ (each_c (o' := _) ?_ (each_c (o' := _) ?_ (each_c (o' := _) ?_ (each_c (o' := _) ?_ (each_c (o' := _) ?_ (each_c (o' := _) ?_ (each_c (o' := _) ?_ (each_c (o' := _) ?_ (each_c (o' := _) ?_ (each_c (o' := _) ?_ (each_c (o' := _) ?_ (each_c (o' := _) ?_ (each_c (o' := _) ?_ (each_c (o' := _) ?_ (each_c (o' := _) ?_ (each_c (o' := _) ?_ (each_c (o' := _) ?_ (each_c (o' := _) ?_ (each_c (o' := _) ?_ (each_c (o' := _) ?_ (each_c (o' := _) ?_ (each_c (o' := _) ?_ (each_c (o' := _) ?_ (each_c (o' := _) ?_ (each_c (o' := _) ?_ (each_c (o' := _) ?_ (each_c (o' := _) ?_ (each_c (o' := _) ?_ (each_c (o' := _) ?_ (each_c (o' := _) ?_ (each_c (o' := _) ?_ (each_c (o' := _) ?_ (each_c (o' := _) ?_ (each_c (o' := _) ?_ (each_c (o' := _) ?_ (each_c (o' := _) ?_ (each_c (o' := _) ?_ (each_n)))))))))))))))))))))))))))))))))))))))))
      -- 0: call fn11<locksmithlaw15.known> [] T[]
      · intro w1 hg Ar seen
        refine does_plain rfl fun K Q' hK => ?_
        go_simp
        refine (known15_any _).mono ?_
        rintro e u ⟨rfl, hb⟩
        exact hK _ _ hb rfl
      -- 1: unOp UnOp.not 4 t28
      · intro w1 hg Ar seen
        obtain ⟨v0, e0, h0⟩ := seen.dep 0 (d := 28) (by kernel_rfl) (by kernel_rfl) rfl
        rcases h0 with rfl
        refine does_plain rfl fun K Q' hK => ?_
        go_simp; exact hK _ _ (Grow.refl _) rfl
      -- 2: move t29
      · intro w1 hg Ar seen
        obtain ⟨v1, e1, h1⟩ := seen.dep 1 (d := 29) (by kernel_rfl) (by kernel_rfl) rfl
        rcases h1 with rfl
        refine does_plain rfl fun K Q' hK => ?_
        go_simp; exact hK _ _ (Grow.refl _) rfl
      -- 3: load 33 t14
      · intro w1 hg Ar seen
        obtain ⟨v2, e2, h2⟩ := seen.dep 2 (d := 30) (by kernel_rfl) (by kernel_rfl) rfl
        rcases h2 with rfl
        have s14 := seen.slot 14 (v := .pointer (some ⟨px, 0, none⟩)) (by kernel_rfl) rfl
        refine does_on rfl (by kernel_rfl) e2 fun K Q' hK => ?_
        clear e2
        refine wp_load_row 33 _ rfl px (by simp [Act.eval, s14]) _ _ _ _ ((hg.block _ (block_lt M6.out.xb)).trans M6.out.xb) Try.underlying33 rfl iSize ?_
        exact hK _ _ (Grow.refl _) rfl
      -- 4: move t0
      · intro w1 hg Ar seen
        obtain ⟨v2, e2, h2⟩ := seen.dep 2 (d := 30) (by kernel_rfl) (by kernel_rfl) rfl
        rcases h2 with rfl
        have s0 := seen.slot 0 (v := .int .i64 tag) (by kernel_rfl) rfl
        refine does_on rfl (by kernel_rfl) e2 fun K Q' hK => ?_
        clear e2
        go_simp; exact hK _ _ (Grow.refl _) rfl
      -- 5: move t2
      · intro w1 hg Ar seen
        obtain ⟨v2, e2, h2⟩ := seen.dep 2 (d := 30) (by kernel_rfl) (by kernel_rfl) rfl
        rcases h2 with rfl
        have s2 := seen.slot 2 (v := .slice aB nB cB) (by kernel_rfl) rfl
        refine does_on rfl (by kernel_rfl) e2 fun K Q' hK => ?_
        clear e2
        go_simp; exact hK _ _ (Grow.refl _) rfl
      -- 6: call fn16<locksmithref15.Bytes> [t32, t33] T[3, 31]
      · intro w1 hg Ar seen
        obtain ⟨v4, e4, h4⟩ := seen.dep 4 (d := 32) (by kernel_rfl) (by kernel_rfl) rfl
        rcases h4 with rfl
        obtain ⟨v5, e5, h5⟩ := seen.dep 5 (d := 33) (by kernel_rfl) (by kernel_rfl) rfl
        rcases h5 with rfl
        obtain ⟨v2, e2, h2⟩ := seen.dep 2 (d := 30) (by kernel_rfl) (by kernel_rfl) rfl
        rcases h2 with rfl
        refine does_on rfl (by kernel_rfl) e2 fun K Q' hK => ?_
        clear e2
        go_simp
        refine (refBytes_any tag ⟨aB, nB, cB⟩ _).mono ?_
        rintro e u ⟨rfl, hb⟩
        exact hK _ _ hb rfl
      -- 7: call fn12<locksmithref6.Same> [t31, t34] T[33, 33]
      · intro w1 hg Ar seen
        obtain ⟨v3, e3, h3⟩ := seen.dep 3 (d := 31) (by kernel_rfl) (by kernel_rfl) rfl
        rcases h3 with rfl
        obtain ⟨v6, e6, h6⟩ := seen.dep 6 (d := 34) (by kernel_rfl) (by kernel_rfl) rfl
        rcases h6 with rfl
        obtain ⟨v2, e2, h2⟩ := seen.dep 2 (d := 30) (by kernel_rfl) (by kernel_rfl) rfl
        rcases h2 with rfl
        refine does_on rfl (by kernel_rfl) e2 fun K Q' hK => ?_
        clear e2
        go_simp
        refine (same6_any { tag := tag, typ := 8, data := lb, ds := s2 } { tag := tag, typ := 8, data := lb, ds := ⟨aB, nB, cB⟩ } _ ((M6.out.below hg).okx (by have := HN2.out; omega)) (ok_flat (M6.out.below hg).arg)).mono ?_
        rintro e u ⟨rfl, hb⟩
        exact hK _ _ hb (congrArg Value.bool (sameI_yes (by rw [it_flat, it_flat])))
      -- 8: unOp UnOp.not 4 t35
      · intro w1 hg Ar seen
        obtain ⟨v7, e7, h7⟩ := seen.dep 7 (d := 35) (by kernel_rfl) (by kernel_rfl) rfl
        rcases h7 with rfl
        obtain ⟨v2, e2, h2⟩ := seen.dep 2 (d := 30) (by kernel_rfl) (by kernel_rfl) rfl
        rcases h2 with rfl
        refine does_on rfl (by kernel_rfl) e2 fun K Q' hK => ?_
        clear e2
        go_simp; exact hK _ _ (Grow.refl _) rfl
      -- 9: pick t30 true t36
      · intro w1 hg Ar seen
        obtain ⟨v2, e2, h2⟩ := seen.dep 2 (d := 30) (by kernel_rfl) (by kernel_rfl) rfl
        rcases h2 with rfl
        obtain ⟨v8, e8, h8⟩ := seen.dep 8 (d := 36) (by kernel_rfl) (by kernel_rfl) rfl
        rcases h8 with rfl
        refine does_plain rfl fun K Q' hK => ?_
        go_simp; exact hK _ _ (Grow.refl _) rfl
      -- 10: move t37
      · intro w1 hg Ar seen
        obtain ⟨v9, e9, h9⟩ := seen.dep 9 (d := 37) (by kernel_rfl) (by kernel_rfl) rfl
        rcases h9 with rfl
        refine does_plain rfl fun K Q' hK => ?_
        go_simp; exact hK _ _ (Grow.refl _) rfl
      -- 11: move t0
      · intro w1 hg Ar seen
        obtain ⟨v10, e10, h10⟩ := seen.dep 10 (d := 38) (by kernel_rfl) (by kernel_rfl) rfl
        rcases h10 with rfl
        have s0 := seen.slot 0 (v := .int .i64 tag) (by kernel_rfl) rfl
        refine does_on rfl (by kernel_rfl) e10 fun K Q' hK => ?_
        clear e10
        go_simp; exact hK _ _ (Grow.refl _) rfl
      -- 12: move t1
      · intro w1 hg Ar seen
        obtain ⟨v10, e10, h10⟩ := seen.dep 10 (d := 38) (by kernel_rfl) (by kernel_rfl) rfl
        rcases h10 with rfl
        have s1 := seen.slot 1 (v := .string s) (by kernel_rfl) rfl
        refine does_on rfl (by kernel_rfl) e10 fun K Q' hK => ?_
        clear e10
        go_simp; exact hK _ _ (Grow.refl _) rfl
      -- 13: call fn17<pay.Text> [t39, t40] T[3, 9]
      · intro w1 hg Ar seen
        obtain ⟨v11, e11, h11⟩ := seen.dep 11 (d := 39) (by kernel_rfl) (by kernel_rfl) rfl
        rcases h11 with rfl
        obtain ⟨v12, e12, h12⟩ := seen.dep 12 (d := 40) (by kernel_rfl) (by kernel_rfl) rfl
        rcases h12 with rfl
        obtain ⟨v10, e10, h10⟩ := seen.dep 10 (d := 38) (by kernel_rfl) (by kernel_rfl) rfl
        rcases h10 with rfl
        refine does_on rfl (by kernel_rfl) e10 fun K Q' hK => ?_
        clear e10
        go_simp
        refine (payText_any tag s _ (by omega)).mono ?_
        rintro e u ⟨x, rfl, h1, h2, -, hb⟩
        exact hK _ _ hb ⟨x, rfl, h1, h2⟩
      -- 14: move t0
      · intro w1 hg Ar seen
        obtain ⟨v10, e10, h10⟩ := seen.dep 10 (d := 38) (by kernel_rfl) (by kernel_rfl) rfl
        rcases h10 with rfl
        have s0 := seen.slot 0 (v := .int .i64 tag) (by kernel_rfl) rfl
        refine does_on rfl (by kernel_rfl) e10 fun K Q' hK => ?_
        clear e10
        go_simp; exact hK _ _ (Grow.refl _) rfl
      -- 15: move t1
      · intro w1 hg Ar seen
        obtain ⟨v10, e10, h10⟩ := seen.dep 10 (d := 38) (by kernel_rfl) (by kernel_rfl) rfl
        rcases h10 with rfl
        have s1 := seen.slot 1 (v := .string s) (by kernel_rfl) rfl
        refine does_on rfl (by kernel_rfl) e10 fun K Q' hK => ?_
        clear e10
        go_simp; exact hK _ _ (Grow.refl _) rfl
      -- 16: call fn18<locksmithref15.Text> [t42, t43] T[3, 9]
      · intro w1 hg Ar seen
        obtain ⟨v14, e14, h14⟩ := seen.dep 14 (d := 42) (by kernel_rfl) (by kernel_rfl) rfl
        rcases h14 with rfl
        obtain ⟨v15, e15, h15⟩ := seen.dep 15 (d := 43) (by kernel_rfl) (by kernel_rfl) rfl
        rcases h15 with rfl
        obtain ⟨v10, e10, h10⟩ := seen.dep 10 (d := 38) (by kernel_rfl) (by kernel_rfl) rfl
        rcases h10 with rfl
        refine does_on rfl (by kernel_rfl) e10 fun K Q' hK => ?_
        clear e10
        go_simp
        refine (refText_any tag s _ (by omega)).mono ?_
        rintro e u ⟨x, rfl, h1, h2, -, hb⟩
        exact hK _ _ hb ⟨x, rfl, h1, h2⟩
      -- 17: call fn12<locksmithref6.Same> [t41, t44] T[33, 33]
      · intro w1 hg Ar seen
        obtain ⟨v13, e13, h13⟩ := seen.dep 13 (d := 41) (by kernel_rfl) (by kernel_rfl) rfl
        obtain ⟨v16, e16, h16⟩ := seen.dep 16 (d := 44) (by kernel_rfl) (by kernel_rfl) rfl
        obtain ⟨v10, e10, h10⟩ := seen.dep 10 (d := 38) (by kernel_rfl) (by kernel_rfl) rfl
        rcases h10 with rfl
        refine does_on rfl (by kernel_rfl) e10 fun K Q' hK => ?_
        clear e10
        obtain ⟨x, rfl, h1, h2⟩ := h13
        obtain ⟨y, rfl, h3, h4⟩ := h16
        go_simp
        refine (same6_any x y _ h2 h4).mono ?_
        rintro e u ⟨rfl, hb⟩
        exact hK _ _ hb (congrArg Value.bool (sameI_yes (by rw [h1, h3])))
      -- 18: unOp UnOp.not 4 t45
      · intro w1 hg Ar seen
        obtain ⟨v17, e17, h17⟩ := seen.dep 17 (d := 45) (by kernel_rfl) (by kernel_rfl) rfl
        rcases h17 with rfl
        obtain ⟨v10, e10, h10⟩ := seen.dep 10 (d := 38) (by kernel_rfl) (by kernel_rfl) rfl
        rcases h10 with rfl
        refine does_on rfl (by kernel_rfl) e10 fun K Q' hK => ?_
        clear e10
        go_simp; exact hK _ _ (Grow.refl _) rfl
      -- 19: pick t38 true t46
      · intro w1 hg Ar seen
        obtain ⟨v10, e10, h10⟩ := seen.dep 10 (d := 38) (by kernel_rfl) (by kernel_rfl) rfl
        rcases h10 with rfl
        obtain ⟨v18, e18, h18⟩ := seen.dep 18 (d := 46) (by kernel_rfl) (by kernel_rfl) rfl
        rcases h18 with rfl
        refine does_plain rfl fun K Q' hK => ?_
        go_simp; exact hK _ _ (Grow.refl _) rfl
      -- 20: move t47
      · intro w1 hg Ar seen
        obtain ⟨v19, e19, h19⟩ := seen.dep 19 (d := 47) (by kernel_rfl) (by kernel_rfl) rfl
        rcases h19 with rfl
        refine does_plain rfl fun K Q' hK => ?_
        go_simp; exact hK _ _ (Grow.refl _) rfl
      -- 21: move t0
      · intro w1 hg Ar seen
        obtain ⟨v20, e20, h20⟩ := seen.dep 20 (d := 48) (by kernel_rfl) (by kernel_rfl) rfl
        rcases h20 with rfl
        have s0 := seen.slot 0 (v := .int .i64 tag) (by kernel_rfl) rfl
        refine does_on rfl (by kernel_rfl) e20 fun K Q' hK => ?_
        clear e20
        go_simp; exact hK _ _ (Grow.refl _) rfl
      -- 22: move t3
      · intro w1 hg Ar seen
        obtain ⟨v20, e20, h20⟩ := seen.dep 20 (d := 48) (by kernel_rfl) (by kernel_rfl) rfl
        rcases h20 with rfl
        have s3 := seen.slot 3 (v := .int .i64 kind) (by kernel_rfl) rfl
        refine does_on rfl (by kernel_rfl) e20 fun K Q' hK => ?_
        clear e20
        go_simp; exact hK _ _ (Grow.refl _) rfl
      -- 23: move t4
      · intro w1 hg Ar seen
        obtain ⟨v20, e20, h20⟩ := seen.dep 20 (d := 48) (by kernel_rfl) (by kernel_rfl) rfl
        rcases h20 with rfl
        have s4 := seen.slot 4 (v := .int .i64 n) (by kernel_rfl) rfl
        refine does_on rfl (by kernel_rfl) e20 fun K Q' hK => ?_
        clear e20
        go_simp; exact hK _ _ (Grow.refl _) rfl
      -- 24: call fn19<pay.Number> [t49, t50, t51] T[3, 3, 2]
      · intro w1 hg Ar seen
        obtain ⟨v21, e21, h21⟩ := seen.dep 21 (d := 49) (by kernel_rfl) (by kernel_rfl) rfl
        rcases h21 with rfl
        obtain ⟨v22, e22, h22⟩ := seen.dep 22 (d := 50) (by kernel_rfl) (by kernel_rfl) rfl
        rcases h22 with rfl
        obtain ⟨v23, e23, h23⟩ := seen.dep 23 (d := 51) (by kernel_rfl) (by kernel_rfl) rfl
        rcases h23 with rfl
        obtain ⟨v20, e20, h20⟩ := seen.dep 20 (d := 48) (by kernel_rfl) (by kernel_rfl) rfl
        rcases h20 with rfl
        refine does_on rfl (by kernel_rfl) e20 fun K Q' hK => ?_
        clear e20
        go_simp
        refine (payNumber_any tag kind n _).mono ?_
        rintro e u ⟨rfl, hb⟩
        exact hK _ _ hb rfl
      -- 25: move t0
      · intro w1 hg Ar seen
        obtain ⟨v20, e20, h20⟩ := seen.dep 20 (d := 48) (by kernel_rfl) (by kernel_rfl) rfl
        rcases h20 with rfl
        have s0 := seen.slot 0 (v := .int .i64 tag) (by kernel_rfl) rfl
        refine does_on rfl (by kernel_rfl) e20 fun K Q' hK => ?_
        clear e20
        go_simp; exact hK _ _ (Grow.refl _) rfl
      -- 26: move t3
      · intro w1 hg Ar seen
        obtain ⟨v20, e20, h20⟩ := seen.dep 20 (d := 48) (by kernel_rfl) (by kernel_rfl) rfl
        rcases h20 with rfl
        have s3 := seen.slot 3 (v := .int .i64 kind) (by kernel_rfl) rfl
        refine does_on rfl (by kernel_rfl) e20 fun K Q' hK => ?_
        clear e20
        go_simp; exact hK _ _ (Grow.refl _) rfl
      -- 27: move t4
      · intro w1 hg Ar seen
        obtain ⟨v20, e20, h20⟩ := seen.dep 20 (d := 48) (by kernel_rfl) (by kernel_rfl) rfl
        rcases h20 with rfl
        have s4 := seen.slot 4 (v := .int .i64 n) (by kernel_rfl) rfl
        refine does_on rfl (by kernel_rfl) e20 fun K Q' hK => ?_
        clear e20
        go_simp; exact hK _ _ (Grow.refl _) rfl
      -- 28: call fn20<locksmithref15.Number> [t53, t54, t55] T[3, 3, 2]
      · intro w1 hg Ar seen
        obtain ⟨v25, e25, h25⟩ := seen.dep 25 (d := 53) (by kernel_rfl) (by kernel_rfl) rfl
        rcases h25 with rfl
        obtain ⟨v26, e26, h26⟩ := seen.dep 26 (d := 54) (by kernel_rfl) (by kernel_rfl) rfl
        rcases h26 with rfl
        obtain ⟨v27, e27, h27⟩ := seen.dep 27 (d := 55) (by kernel_rfl) (by kernel_rfl) rfl
        rcases h27 with rfl
        obtain ⟨v20, e20, h20⟩ := seen.dep 20 (d := 48) (by kernel_rfl) (by kernel_rfl) rfl
        rcases h20 with rfl
        refine does_on rfl (by kernel_rfl) e20 fun K Q' hK => ?_
        clear e20
        go_simp
        refine (refNumber_any tag kind n _).mono ?_
        rintro e u ⟨rfl, hb⟩
        exact hK _ _ hb rfl
      -- 29: call fn12<locksmithref6.Same> [t52, t56] T[33, 33]
      · intro w1 hg Ar seen
        obtain ⟨v24, e24, h24⟩ := seen.dep 24 (d := 52) (by kernel_rfl) (by kernel_rfl) rfl
        rcases h24 with rfl
        obtain ⟨v28, e28, h28⟩ := seen.dep 28 (d := 56) (by kernel_rfl) (by kernel_rfl) rfl
        rcases h28 with rfl
        obtain ⟨v20, e20, h20⟩ := seen.dep 20 (d := 48) (by kernel_rfl) (by kernel_rfl) rfl
        rcases h20 with rfl
        refine does_on rfl (by kernel_rfl) e20 fun K Q' hK => ?_
        clear e20
        go_simp
        refine (same6_any { tag := tag, typ := kind, int := n } { tag := tag, typ := kind, int := n } _ (ItV.ok.zero _ _ _ _) (ItV.ok.zero _ _ _ _)).mono ?_
        rintro e u ⟨rfl, hb⟩
        exact hK _ _ hb (congrArg Value.bool (sameI_yes rfl))
      -- 30: unOp UnOp.not 4 t57
      · intro w1 hg Ar seen
        obtain ⟨v29, e29, h29⟩ := seen.dep 29 (d := 57) (by kernel_rfl) (by kernel_rfl) rfl
        rcases h29 with rfl
        obtain ⟨v20, e20, h20⟩ := seen.dep 20 (d := 48) (by kernel_rfl) (by kernel_rfl) rfl
        rcases h20 with rfl
        refine does_on rfl (by kernel_rfl) e20 fun K Q' hK => ?_
        clear e20
        go_simp; exact hK _ _ (Grow.refl _) rfl
      -- 31: pick t48 true t58
      · intro w1 hg Ar seen
        obtain ⟨v20, e20, h20⟩ := seen.dep 20 (d := 48) (by kernel_rfl) (by kernel_rfl) rfl
        rcases h20 with rfl
        obtain ⟨v30, e30, h30⟩ := seen.dep 30 (d := 58) (by kernel_rfl) (by kernel_rfl) rfl
        rcases h30 with rfl
        refine does_plain rfl fun K Q' hK => ?_
        go_simp; exact hK _ _ (Grow.refl _) rfl
      -- 32: move t59
      · intro w1 hg Ar seen
        obtain ⟨v31, e31, h31⟩ := seen.dep 31 (d := 59) (by kernel_rfl) (by kernel_rfl) rfl
        rcases h31 with rfl
        refine does_plain rfl fun K Q' hK => ?_
        go_simp; exact hK _ _ (Grow.refl _) rfl
      -- 33: load 33 t15
      · intro w1 hg Ar seen
        obtain ⟨v32, e32, h32⟩ := seen.dep 32 (d := 60) (by kernel_rfl) (by kernel_rfl) rfl
        rcases h32 with rfl
        have s15 := seen.slot 15 (v := .pointer (some ⟨py, 0, none⟩)) (by kernel_rfl) rfl
        refine does_on rfl (by kernel_rfl) e32 fun K Q' hK => ?_
        clear e32
        refine wp_load_row 33 _ rfl py (by simp [Act.eval, s15]) _ _ _ _ ((hg.block _ (block_lt HB6.out)).trans HB6.out) Try.underlying33 rfl iSize ?_
        exact hK _ _ (Grow.refl _) rfl
      -- 34: move t0
      · intro w1 hg Ar seen
        obtain ⟨v32, e32, h32⟩ := seen.dep 32 (d := 60) (by kernel_rfl) (by kernel_rfl) rfl
        rcases h32 with rfl
        have s0 := seen.slot 0 (v := .int .i64 tag) (by kernel_rfl) rfl
        refine does_on rfl (by kernel_rfl) e32 fun K Q' hK => ?_
        clear e32
        go_simp; exact hK _ _ (Grow.refl _) rfl
      -- 35: move t5
      · intro w1 hg Ar seen
        obtain ⟨v32, e32, h32⟩ := seen.dep 32 (d := 60) (by kernel_rfl) (by kernel_rfl) rfl
        rcases h32 with rfl
        have s5 := seen.slot 5 (v := .slice aL nL cL) (by kernel_rfl) rfl
        refine does_on rfl (by kernel_rfl) e32 fun K Q' hK => ?_
        clear e32
        go_simp; exact hK _ _ (Grow.refl _) rfl
      -- 36: call fn8<locksmithlaw15.kids> [t63] T[22]
      · intro w1 hg Ar seen
        obtain ⟨v35, e35, h35⟩ := seen.dep 35 (d := 63) (by kernel_rfl) (by kernel_rfl) rfl
        rcases h35 with rfl
        obtain ⟨v32, e32, h32⟩ := seen.dep 32 (d := 60) (by kernel_rfl) (by kernel_rfl) rfl
        rcases h32 with rfl
        refine does_on rfl (by kernel_rfl) e32 fun K Q' hK => ?_
        clear e32
        go_simp
        refine (kids_any l aL nL cL _ (raws_below HAL6.out hg)).mono ?_
        rintro e u ⟨so, rfl, how, hb⟩
        exact hK _ _ hb ⟨so, rfl, how.sl (by have := kids8_len l; rw [how.len] at this; omega), how.ok⟩
      -- 37: call fn21<locksmithref15.Of> [t62, t64] T[3, 29]
      · intro w1 hg Ar seen
        obtain ⟨v34, e34, h34⟩ := seen.dep 34 (d := 62) (by kernel_rfl) (by kernel_rfl) rfl
        rcases h34 with rfl
        obtain ⟨v36, e36, h36⟩ := seen.dep 36 (d := 64) (by kernel_rfl) (by kernel_rfl) rfl
        obtain ⟨v32, e32, h32⟩ := seen.dep 32 (d := 60) (by kernel_rfl) (by kernel_rfl) rfl
        rcases h32 with rfl
        refine does_on rfl (by kernel_rfl) e32 fun K Q' hK => ?_
        clear e32
        obtain ⟨so, rfl, h1, h2⟩ := h36
        go_simp
        refine (refOf_any tag so _).mono ?_
        rintro e u ⟨rfl, hb⟩
        exact hK _ _ hb ⟨so, rfl, h1.below hb, fun x hx => (h2 x hx).below hb⟩
      -- 38: call fn12<locksmithref6.Same> [t61, t65] T[33, 33]
      · intro w1 hg Ar seen
        obtain ⟨v33, e33, h33⟩ := seen.dep 33 (d := 61) (by kernel_rfl) (by kernel_rfl) rfl
        rcases h33 with rfl
        obtain ⟨v37, e37, h37⟩ := seen.dep 37 (d := 65) (by kernel_rfl) (by kernel_rfl) rfl
        obtain ⟨v32, e32, h32⟩ := seen.dep 32 (d := 60) (by kernel_rfl) (by kernel_rfl) rfl
        rcases h32 with rfl
        refine does_on rfl (by kernel_rfl) e32 fun K Q' hK => ?_
        clear e32
        obtain ⟨so, rfl, h1, h2⟩ := h37
        go_simp
        refine (same6_any vy { tag := tag, typ := 1, ks := so, kids := (l.take 8).map kidV } _ (OY6.out.below hg) (ItV.ok_iff.2 ⟨SlC.nil _, h1, h2⟩)).mono ?_
        rintro e u ⟨rfl, hb⟩
        exact hK _ _ hb (congrArg Value.bool (sameI_yes (by rw [it_kids2, IY.out, List.map_map]; congr 1)))
      -- 39: unOp UnOp.not 4 t66
      · intro w1 hg Ar seen
        obtain ⟨v38, e38, h38⟩ := seen.dep 38 (d := 66) (by kernel_rfl) (by kernel_rfl) rfl
        rcases h38 with rfl
        obtain ⟨v32, e32, h32⟩ := seen.dep 32 (d := 60) (by kernel_rfl) (by kernel_rfl) rfl
        rcases h32 with rfl
        refine does_on rfl (by kernel_rfl) e32 fun K Q' hK => ?_
        clear e32
        go_simp; exact hK _ _ (Grow.refl _) rfl
      -- 40: pick t60 true t67
      · intro w1 hg Ar seen
        obtain ⟨v32, e32, h32⟩ := seen.dep 32 (d := 60) (by kernel_rfl) (by kernel_rfl) rfl
        rcases h32 with rfl
        obtain ⟨v39, e39, h39⟩ := seen.dep 39 (d := 67) (by kernel_rfl) (by kernel_rfl) rfl
        rcases h39 with rfl
        refine does_plain rfl fun K Q' hK => ?_
        go_simp; exact hK _ _ (Grow.refl _) rfl
  intro w1 hg
  refine upon_w' (js := [0, 1, 2, 3, 4, 5, 6, 7, 8, 9, 10, 11, 12, 13, 14, 15, 16, 17, 18, 19, 20, 21, 22, 23, 24, 25, 26, 27, 28, 29, 30, 31, 32, 33, 34, 35, 36, 37, 38, 39, 40]) (by rfl) ?_
  refine upon_c (x := some 28) (by kernel_rfl) rfl fun v0 h0 => ?_
  rcases h0 with rfl
  refine upon_c (x := some 29) (by kernel_rfl) rfl fun v1 h1 => ?_
  rcases h1 with rfl
  refine upon_c (x := some 30) (by kernel_rfl) rfl fun v2 h2 => ?_
  rcases h2 with rfl
  refine upon_c (x := some 31) (by kernel_rfl) rfl fun v3 h3 => ?_
  rcases h3 with rfl
  refine upon_c (x := some 32) (by kernel_rfl) rfl fun v4 h4 => ?_
  rcases h4 with rfl
  refine upon_c (x := some 33) (by kernel_rfl) rfl fun v5 h5 => ?_
  rcases h5 with rfl
  refine upon_c (x := some 34) (by kernel_rfl) rfl fun v6 h6 => ?_
  rcases h6 with rfl
  refine upon_c (x := some 35) (by kernel_rfl) rfl fun v7 h7 => ?_
  rcases h7 with rfl
  refine upon_c (x := some 36) (by kernel_rfl) rfl fun v8 h8 => ?_
  rcases h8 with rfl
  refine upon_c (x := some 37) (by kernel_rfl) rfl fun v9 h9 => ?_
  rcases h9 with rfl
  refine upon_c (x := some 38) (by kernel_rfl) rfl fun v10 h10 => ?_
  rcases h10 with rfl
  refine upon_c (x := some 39) (by kernel_rfl) rfl fun v11 h11 => ?_
  rcases h11 with rfl
  refine upon_c (x := some 40) (by kernel_rfl) rfl fun v12 h12 => ?_
  rcases h12 with rfl
  refine upon_c (x := some 41) (by kernel_rfl) rfl fun v13 h13 => ?_
  refine upon_c (x := some 42) (by kernel_rfl) rfl fun v14 h14 => ?_
  rcases h14 with rfl
  refine upon_c (x := some 43) (by kernel_rfl) rfl fun v15 h15 => ?_
  rcases h15 with rfl
  refine upon_c (x := some 44) (by kernel_rfl) rfl fun v16 h16 => ?_
  refine upon_c (x := some 45) (by kernel_rfl) rfl fun v17 h17 => ?_
  rcases h17 with rfl
  refine upon_c (x := some 46) (by kernel_rfl) rfl fun v18 h18 => ?_
  rcases h18 with rfl
  refine upon_c (x := some 47) (by kernel_rfl) rfl fun v19 h19 => ?_
  rcases h19 with rfl
  refine upon_c (x := some 48) (by kernel_rfl) rfl fun v20 h20 => ?_
  rcases h20 with rfl
  refine upon_c (x := some 49) (by kernel_rfl) rfl fun v21 h21 => ?_
  rcases h21 with rfl
  refine upon_c (x := some 50) (by kernel_rfl) rfl fun v22 h22 => ?_
  rcases h22 with rfl
  refine upon_c (x := some 51) (by kernel_rfl) rfl fun v23 h23 => ?_
  rcases h23 with rfl
  refine upon_c (x := some 52) (by kernel_rfl) rfl fun v24 h24 => ?_
  rcases h24 with rfl
  refine upon_c (x := some 53) (by kernel_rfl) rfl fun v25 h25 => ?_
  rcases h25 with rfl
  refine upon_c (x := some 54) (by kernel_rfl) rfl fun v26 h26 => ?_
  rcases h26 with rfl
  refine upon_c (x := some 55) (by kernel_rfl) rfl fun v27 h27 => ?_
  rcases h27 with rfl
  refine upon_c (x := some 56) (by kernel_rfl) rfl fun v28 h28 => ?_
  rcases h28 with rfl
  refine upon_c (x := some 57) (by kernel_rfl) rfl fun v29 h29 => ?_
  rcases h29 with rfl
  refine upon_c (x := some 58) (by kernel_rfl) rfl fun v30 h30 => ?_
  rcases h30 with rfl
  refine upon_c (x := some 59) (by kernel_rfl) rfl fun v31 h31 => ?_
  rcases h31 with rfl
  refine upon_c (x := some 60) (by kernel_rfl) rfl fun v32 h32 => ?_
  rcases h32 with rfl
  refine upon_c (x := some 61) (by kernel_rfl) rfl fun v33 h33 => ?_
  rcases h33 with rfl
  refine upon_c (x := some 62) (by kernel_rfl) rfl fun v34 h34 => ?_
  rcases h34 with rfl
  refine upon_c (x := some 63) (by kernel_rfl) rfl fun v35 h35 => ?_
  rcases h35 with rfl
  refine upon_c (x := some 64) (by kernel_rfl) rfl fun v36 h36 => ?_
  refine upon_c (x := some 65) (by kernel_rfl) rfl fun v37 h37 => ?_
  refine upon_c (x := some 66) (by kernel_rfl) rfl fun v38 h38 => ?_
  rcases h38 with rfl
  refine upon_c (x := some 67) (by kernel_rfl) rfl fun v39 h39 => ?_
  rcases h39 with rfl
  refine upon_c (x := some 68) (by kernel_rfl) rfl fun v40 h40 => ?_
  rcases h40 with rfl
  refine upon_n ?_
  go_simp
  have M7 := hid (M6.out.below hg)
  clear M6 HAL6 OY6 HB6 IY hg h13 h16 h36 h37
  go_simp
  obtain ⟨sa2, sn2, sc2⟩ := s2
  have hn2 : sn2 = nB := HN2.out
  subst hn2
  have hc3 := cell_of_block (j := 3) M7.out.xb (ar3 _)
  simp only at hc3
  have hcap : sn2 ≤ 140737488355328 := by omega
  clear HN2
  go_wp2_with fail
  go_loopw [16] (fun y wr => ∃ (k : Nat) (l2 : List UInt8), k ≤ sn2 ∧ y = .int .i64 k ∧ PMk 33 5 w wr z1 px a1 sn2 c1 tag ⟨sa2, sn2, sc2⟩ lb l2 aB cB) (fun y _ => sn2 - (intOf y).toNat)
  case atStart => exact ⟨0, lb, Nat.zero_le _, rfl, M7.out⟩
  case round =>
    clear M7 hc3
    obtain ⟨k, l2, hk, rfl, hm⟩ := hrel
    have M := hid hm
    clear hm
    have hc3 := cell_of_block (j := 3) M.out.xb (ar3 _)
    simp only at hc3
    by_cases hlt : k < sn2
    · obtain ⟨g, hga, hgb, hgl⟩ := (own_slice M.out.own2).2.2 (by simp only; omega)
      simp only at hga
      subst hga
      have ho2 := M.out.own2
      simp only at ho2
      have hcell := ownB_cell ho2 k hlt
      have hfz := ho2.frozenAt k
      have HO2 := hid ho2
      clear ho2
      obtain ⟨c, hc⟩ : ∃ c : UInt8, l2.getD k 0 = c := ⟨_, rfl⟩
      rw [hc] at hcell
      unfold B8 at hcell
      clear hc
      obtain ⟨c', hc'⟩ := byte_of (((c.toNat : Int) + 1) % 256) (by omega) (by omega)
      have HC' := hid hc'
      clear hc'
      have hGP : g < px := HPX.out.2.2 g rfl
      go_wp2_with fail
      rw [HC'.out]
      have hsc : Chg [g] wr (wr.setCell ⟨g, k, none⟩ (B8 c')) := (Chg.refl [g] wr).setCell (.inl (by simp)) _
      have hz1 := HPX.out.1
      have M2 : Hid (PMk 33 5 w (wr.setCell ⟨g, k, none⟩ (B8 c')) z1 px a1 sn2 c1 tag ⟨some ⟨g, 0, none⟩, sn2, sc2⟩ lb (l2.set k c') aB cB) :=
        ⟨M.out.bel.setCell (by simp; omega) _, hsc.owns M.out.own1 (fun q hq hm => by have := HOL.out q hq; have := List.mem_singleton.1 hm; omega), ownB_set HO2.out k c', (hsc.block _ (block_lt M.out.xb) (by simp; omega)).trans M.out.xb, M.out.arg.keep hsc (fun q hq hm => by have := HBC.out.lt q hq; have := List.mem_singleton.1 hm; omega)⟩
      clear hcell hfz hsc hc3
      go_roundw
      case rel =>
        first
          | exact ⟨k + 1, _, by omega, by go_num, M2.out⟩
          | ((repeat apply Exists.intro); exact ⟨⟨k + 1, _, by omega, by go_num, M2.out⟩, rfl⟩)
      case measure => simp [intOf]; omega
    · obtain rfl : k = sn2 := by omega
      have r1 := run_bytes_str (P := Try.prog) (RdB.of_own M.out.own1) c1 31 9 5 Try.underlying31 Try.underlying5 Try.underlying9
      have r2 := run_bytes_str (P := Try.prog) M.out.arg.rdB cB 31 9 5 Try.underlying31 Try.underlying5 Try.underlying9
      simp only at r2
      go_wp2_with fail
      go_ret
      exact ⟨rfl, M.out.bel⟩
end Go.Proofs.Ytpcbofgjnbdfhaa
