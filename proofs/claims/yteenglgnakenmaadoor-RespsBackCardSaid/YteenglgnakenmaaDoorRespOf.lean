/- locksmithlaw17.response: of raw rows. -/
import Derived.Test.YteenglgnakenmaaDoorHItA
import Derived.Test.YteenglgnakenmaaDoorRspA
import Derived.Test.YteenglgnakenmaaDoorOwnA
import Derived.Deep.DeepCutAuto
import Derived.Deep.CutBlock
import Derived.Lib.ValidU
namespace Go.Proofs.YteenglgnakenmaaDoor
open Go.RowKit
set_option linter.unusedVariables false
set_option linter.unusedSimpArgs false
set_option maxRecDepth 100000
set_option maxHeartbeats 4000000
/-- A row of chapter 17's statements. -/
structure RwD where
  op : Int := 0
  status : Int := 0
  reason : Int := 0
  how : Int := 0
  ida : Option Addr := none
  idn : Nat := 0
  idc : Nat := 0
  id : List UInt8 := []
  msg : ByteArray := ⟨#[]⟩
  kd : Int := 0
  a : Int := 0
  b : Int := 0
  c : Int := 0
deriving Inhabited
def RwD.cells (y : RwD) : List Value := [.int .i64 y.op, .int .i64 y.status, .int .i64 y.reason, .int .i64 y.how, .slice y.ida y.idn y.idc, .string y.msg, .int .i64 y.kd, .int .i64 y.a, .int .i64 y.b, .int .i64 y.c]
structure RwD.ok (w : World) (y : RwD) : Prop where
  reason : -9223372036854775808 ≤ y.reason ∧ y.reason ≤ 9223372036854775807
  how : -9223372036854775808 ≤ y.how ∧ y.how ≤ 9223372036854775807
  rd : RdB w y.ida y.idn y.id
  nc : y.idn ≤ y.idc
  sm : y.idc ≤ 140737488355328
  no : y.ida = none → y.idc = 0
theorem RwD.ok.below {w w' : World} {y : RwD} (h : y.ok w) (hb : Below w.heap.size w w') : y.ok w' := ⟨h.reason, h.how, h.rd.below hb, h.nc, h.sm, h.no⟩
/-- Rows that came in. -/
structure RwArgs (w : World) (a : Option Addr) (n : Nat) (l : List RwD) : Prop where
  len : l.length = n
  sm : n ≤ 140737488355328
  row : ∀ k, k < n → ∃ b off y, a = some ⟨b, off, none⟩ ∧ l[k]? = some y ∧ w.rangeAt b (off + k * 10) y.cells ∧ y.ok w
theorem RwArgs.below {w w' : World} {a : Option Addr} {n : Nat} {l : List RwD} (h : RwArgs w a n l) (hb : Below w.heap.size w w') : RwArgs w' a n l :=
  ⟨h.len, h.sm, fun k hk => let ⟨b, off, y, h1, h2, h3, h4⟩ := h.row k hk; ⟨b, off, y, h1, h2, range_later hb h3, h4.below hb⟩⟩
def rsnL : List Int := [0, 1, 4, 256, 7]
def msgL : List ByteArray := [⟨#[]⟩, ⟨#[78, 111, 116, 70, 111, 117, 110, 100]⟩, ⟨#[109]⟩, ⟨#[70, 105, 101, 108, 100]⟩]
theorem msgL_size (k : Nat) : (msgL.getD k ByteArray.empty).size ≤ 8 := by
  match k with
  | 0 => decide
  | 1 => decide
  | 2 => decide
  | 3 => decide
  | k + 4 => rw [List.getD_eq_getElem?_getD, List.getElem?_eq_none (by simp [msgL])]; decide
/-- What stands in an item of such a response. -/
structure GoodI (x : RsI) : Prop where
  ms : x.msg.size ≤ 8
  mv : Lib.validD x.msg.data.toList = true
  st : 0 ≤ x.status ∧ x.status < 4
  rs : 0 ≤ x.reason ∧ x.reason ≤ 256
  op : 0 ≤ x.op ∧ x.op < 60
  oh : x.hasOp = false → x.op = 0
  il : x.id.length ≤ 50
  ih : x.hasId = false → x.id = []
  pa : (x.hasPay = false ∧ x.pay = {}) ∨ (x.hasPay = true ∧ ∃ n : Int, -2147483648 ≤ n ∧ n < 2147483648 ∧ x.pay = ⟨4325500, 1, 0, [], [⟨4325384, 2, n, [], []⟩]⟩)
theorem msgL_valid (k : Nat) : Lib.validD (msgL.getD k ByteArray.empty).data.toList = true := by
  match k with
  | 0 => decide +kernel
  | 1 => decide +kernel
  | 2 => decide +kernel
  | 3 => decide +kernel
  | k + 4 => rw [List.getD_eq_getElem?_getD, List.getElem?_eq_none (by simp [msgL])]; decide +kernel
theorem rsnL_in (k : Nat) : 0 ≤ rsnL.getD k 0 ∧ rsnL.getD k 0 ≤ 256 := by
  match k with
  | 0 => decide
  | 1 => decide
  | 2 => decide
  | 3 => decide
  | 4 => decide
  | k + 5 => rw [List.getD_eq_getElem?_getD, List.getElem?_eq_none (by simp [rsnL])]; decide
theorem goodI_new {s : Int} {k j : Nat} (h0 : 0 ≤ s) (h1 : s < 4) : GoodI (RsIV.rq { status := s, reason := rsnL.getD k 0, msg := msgL.getD j ByteArray.empty }) :=
  ⟨msgL_size _, msgL_valid _, ⟨h0, h1⟩, rsnL_in _, ⟨Int.le_refl _, by show (0 : Int) < 60; decide⟩, fun _ => rfl, Nat.zero_le _, fun _ => rfl, .inl ⟨rfl, rfl⟩⟩
theorem GoodI.oped {v : RsIV} (h : GoodI v.rq) {n : Int} (h0 : 0 ≤ n) (h1 : n < 60) : GoodI (RsIV.rq { v with hasOp := true, op := n }) :=
  ⟨h.ms, h.mv, h.st, h.rs, ⟨h0, h1⟩, (fun hf => by cases hf), h.il, h.ih, h.pa⟩
theorem GoodI.ided {v : RsIV} (h : GoodI v.rq) {l : List UInt8} {s : Sl} (hl : l.length ≤ 50) : GoodI (RsIV.rq { v with hasId := true, id := l, ids := s }) :=
  ⟨h.ms, h.mv, h.st, h.rs, h.op, h.oh, hl, (fun hf => by cases hf), h.pa⟩
theorem goodI_paid {v : RsIV} (h : GoodI v.rq) {p : ItV} (n : Int) (hp : p.it = ⟨4325500, 1, 0, [], [⟨4325384, 2, wrap64 (wrap32 n), [], []⟩]⟩) : GoodI (RsIV.rq { v with hasPay := true, pay := p }) :=
  ⟨h.ms, h.mv, h.st, h.rs, h.op, h.oh, h.il, h.ih, .inr ⟨rfl, wrap64 (wrap32 n), by unfold wrap64 wrap32; omega, by unfold wrap64 wrap32; omega, hp⟩⟩
theorem sBuildRow (s r : Int) (m : ByteArray) (w : World) : (Instr.build 51 #[(4, .int .i64 s), (5, .int .i64 r), (6, .string m)]).run Tryd.prog w = .ok (.agg (RsIV.arr { status := s, reason := r, msg := m })) w := by kernel_rfl
theorem pBuildT (t : Int) (w : World) : (Instr.build 25 #[(0, .int .i64 t)]).run Tryd.prog w = .ok (.agg (RsV.arr { time := t })) w := by kernel_rfl
theorem sizeIntR : ∀ w : World, (sizeOf 3).run Tryd.prog w = .ok 1 w := fun w => by kernel_rfl
theorem sizeStrR : ∀ w : World, (sizeOf 9).run Tryd.prog w = .ok 1 w := fun w => by kernel_rfl
theorem rwSz : (Tryd.prog.info? 46).map (·.size) = some 10 := by kernel_rfl
theorem rwZero : (Tryd.prog.info? 46).map (·.zero) = some (some (.agg (RwD.cells {}).toArray)) := by kernel_rfl
theorem rw_one (y : RwD) : y.cells.toArray.all (·.oneCell') = true := by simp [RwD.cells, Value.oneCell']
theorem tdiv_in' (a m : Int) (hm : 1 < m) (h : -9223372036854775808 ≤ a ∧ a ≤ 9223372036854775807) : -9223372036854775808 ≤ a.tdiv m ∧ a.tdiv m ≤ 9223372036854775807 := by
  rcases Int.le_total 0 a with h0 | h0
  · rw [Int.tdiv_eq_ediv_of_nonneg h0]
    have h1 := Int.ediv_nonneg h0 (show 0 ≤ m by omega)
    have h2 := Int.ediv_le_self m h0
    omega
  · have e : a.tdiv m = -((-a).tdiv m) := by rw [Int.neg_tdiv, Int.neg_neg]
    rw [e, Int.tdiv_eq_ediv_of_nonneg (by omega)]
    have h1 := Int.ediv_nonneg (show 0 ≤ -a by omega) (show 0 ≤ m by omega)
    have h2 := Int.ediv_le_self m (show 0 ≤ -a by omega)
    omega
theorem response_all (tm : Int) (l : List RwD) (a : Option Addr) (n c : Nat) (w : World) (hal : RwArgs w a n l) :
    Calls Tryd.prog 4 #[.int .i64 tm, .slice a n c] w fun e w' => ∃ v : RsV, e = .returned (.agg v.arr) ∧ v.ok w' ∧ v.its.n ≤ 8 ∧ (∀ x ∈ v.items, GoodI x.rq) ∧ v.time = tm ∧ Below w.heap.size w w' := by
  obtain ⟨i, hi, hz0, hz1, hz2⟩ := info_parts iInfo
  obtain ⟨iq, hiq, hy0, hy1, hy2⟩ := info_parts sInfo
  have HAL := hid hal
  have hnn := hal.sm
  clear hal
  generalize hbe : w.heap.size = b
  have HBE := hid hbe; clear hbe
  go_enter Tryd.func4, Tryd.ntmps4
  go_upto_region 1 with (refine wpList_alloc_obj rfl 25 rfl _ pZero ?_)
  go_simp
  have hbw : Below w.heap.size w (w.alloc (.cells rpZ.arr 25)) := (Below.refl _ _).alloc (Nat.le_refl _) _
  have hb0 := block_new w (.cells rpZ.arr 25)
  have hsz : (w.alloc (.cells rpZ.arr 25)).heap.size = w.heap.size + 1 := by simp
  rw [HBE.out] at hbw hb0 hsz ⊢
  have HBW := hid hbw; have HB0 := hid hb0; have HSZ := hid hsz
  clear hbw hb0 hsz
  generalize w.alloc (.cells rpZ.arr 25) = W at *
  go_upto_region 2 with (first | (refine wpList_build_obj rfl 25 _ rfl #[(0, .int .i64 tm)] (by simp [Act.eval]) _ (pBuildT tm _) ?_) | (refine wpList_alloc_obj rfl 25 rfl _ pZero ?_) | (refine wpList_store_obj rfl 25 _ _ rfl W.heap.size rfl (RsV.arr { time := tm }) rfl _ _ (block_new W _) rfl pSize (by simp [RsV.arr, Value.oneCell']) ?_; intro w2 hb2 hc2 hs2; have HP2 := hid hb2; have HC2 := hid hc2; clear hb2 hc2 hs2) | go_in)
  go_simp
  have hbel : Below W.heap.size W w2 := ((Below.refl _ W).alloc (Nat.le_refl _) _).trans (HC2.out.below (fun k hk => by rw [List.mem_singleton.1 hk]; exact Nat.le_refl _) (by simp))
  have HB2 := hid ((hbel.block _ (block_lt HB0.out)).trans HB0.out)
  have HBW2 := hid (HBW.out.trans (hbel.mono (by rw [HSZ.out]; omega)))
  have HPB : Hid (b + 1 ≤ W.heap.size) := by show _ ≤ _; rw [HSZ.out]; omega
  clear hbel HC2 HB0 HBW HSZ
  generalize W.heap.size = p at *
  obtain ⟨z, hzw⟩ : ∃ z, z = w2.heap.size := ⟨_, rfl⟩
  have HZW := hid hzw
  have HPZ : Hid (p < z) := by show p < z; rw [hzw]; exact block_lt HP2.out
  clear hzw
  go_wp2_with fail
  go_loopw [6] (fun u wr => ∃ (k : Nat) (s : Sl) (lq : List RsIV), k ≤ n ∧ k ≤ 8 ∧ u = .int .i64 (k : Int) ∧ wr.heap[p]? = some (.cells (RsV.arr { time := tm, its := s, items := lq }) 25 (0, 0)) ∧ wr.heap[b]? = some (.cells rpZ.arr 25 (0, 0)) ∧ OwnRs 51 wr z s lq ∧ s.n ≤ k ∧ (∀ x ∈ lq, GoodI x.rq) ∧ (∀ x ∈ lq, ∀ j ∈ x.foot, z ≤ j) ∧ Below b w wr ∧ z ≤ wr.heap.size) (fun u _ => 8 - (intOf u).toNat)
  case atStart => exact ⟨0, {}, [], Nat.zero_le _, Nat.zero_le _, rfl, HP2.out, HB2.out, OwnRs.nil _ _ _, Nat.le_refl _, (fun x hx => by cases hx), (fun x hx => by cases hx), HBW2.out, Nat.le_of_eq HZW.out⟩
  case round =>
    clear HP2 HB2 HBW2
    obtain ⟨k, s, lq, hk, hk8, rfl, hp, hb, ho, hsn, hms, hfl, hbw, hzr⟩ := hrel
    have HP := hid hp; have HB := hid hb; have HO := hid ho; have HSN := hid hsn; have HMS := hid hms; have HFL := hid hfl; have HBW := hid hbw; have HZR := hid hzr
    clear hp hb ho hsn hms hfl hbw hzr
    by_cases hlt : k < n
    · by_cases hlt8 : k < 8
      · have hbel : Below w.heap.size w wr := by rw [HBE.out]; exact HBW.out
        obtain ⟨bx, ox, y, hax, hy, hrow, hyok⟩ := (HAL.out.below hbel).row k hlt
        subst hax
        have HR := hid hrow; have HYO := hid hyok
        clear hrow hyok hy hbel
        go_upto_region 6 with (first | (refine wpList_load_mid rfl 46 _ rfl bx (ox + k * 10) rfl y.cells _ HR.out Tryd.underlying46 rfl rwSz ?_) | (refine wpList_alloc_obj rfl 46 rfl _ rwZero ?_) | (refine wpList_store_obj rfl 46 _ _ rfl wr.heap.size rfl y.cells.toArray rfl _ _ (block_new wr _) rfl rwSz (rw_one y) ?_; intro w5 hb5 hc5 hs5; have HG5 := hid hb5; have HC := hid hc5; clear hb5 hc5 hs5))
        go_simp
        have hbel : Below wr.heap.size wr w5 := ((Below.refl _ wr).alloc (Nat.le_refl _) _).trans (HC.out.below (fun k hk => by rw [List.mem_singleton.1 hk]; exact Nat.le_refl _) (by simp))
        have HP5 := hid ((hbel.block _ (block_lt HP.out)).trans HP.out)
        have HB5 := hid ((hbel.block _ (block_lt HB.out)).trans HB.out)
        have HO5 := hid (HO.out.below hbel)
        have HY5 := hid (HYO.out.below hbel)
        have HBW5 := hid (HBW.out.trans (hbel.mono (by have := block_lt HB.out; omega)))
        have HZR5 := hid (Nat.le_trans HZR.out hbel.size)
        clear hbel HC HR HP HB HO HYO HBW
        generalize wr.heap.size = g at *
        obtain ⟨c5, hc5⟩ : ∃ z, z = w5.heap.size := ⟨_, rfl⟩
        have HC5 := hid hc5
        have HGC : Hid (g < c5) := by show g < c5; rw [hc5]; exact block_lt HG5.out
        have HZC : Hid (z ≤ c5) := by show z ≤ c5; rw [hc5]; exact HZR5.out
        clear hc5
        have hdv := tdiv_in' y.reason 5 (by omega) HY5.out.reason
        have HSX : Hid (IntKind.i64.wrap (y.reason.tdiv 5) = y.reason.tdiv 5) := IntWalk.i64_in _ (by omega)
        clear hdv
        refine wp_region_each 16 [.eq (.pointer (some ⟨g, 1, none⟩)), .eq (.int .i64 y.status), .eq (.int .i64 (pick y.status 4)), .eq (.agg #[.int .i64 0, .int .i64 1, .int .i64 4, .int .i64 256, .int .i64 7]), .eq (.pointer (some ⟨g, 2, none⟩)), .eq (.int .i64 y.reason), .eq (.int .i64 (pick y.reason 5)), .eq (.int .i64 (rsnL.getD (pickN y.reason 5) 0)), .eq (.agg #[.string ⟨#[]⟩, .string ⟨#[78, 111, 116, 70, 111, 117, 110, 100]⟩, .string ⟨#[109]⟩, .string ⟨#[70, 105, 101, 108, 100]⟩]), .eq (.pointer (some ⟨g, 2, none⟩)), .eq (.int .i64 y.reason), .eq (.int .i64 (y.reason.tdiv 5)), .eq (.int .i64 (pick (y.reason.tdiv 5) 4)), .eq (.string (msgL.getD (pickN (y.reason.tdiv 5) 4) ByteArray.empty)), .eq (.agg (RsIV.arr { status := pick y.status 4, reason := (rsnL.getD (pickN y.reason 5) 0), msg := (msgL.getD (pickN (y.reason.tdiv 5) 4) ByteArray.empty) })), stNewQ 51 rsZ.arr c5] (by kernel_rfl) (by kernel_rfl) (by kernel_rfl) (by kernel_rfl) ?_ ?_
        · as_aux_lemma =>
            refine each_5 ?_ ?_ ?_ ?_ ?_ (each_5 ?_ ?_ ?_ ?_ ?_ (each_5 ?_ ?_ ?_ ?_ ?_ (each_c ?_ (each_n))))
            · intro w1 hg Ar seen
              have s7 := seen.sl 7 (.pointer (some ⟨g, 0, none⟩))
              refine does_plain rfl fun K Q' hK => ?_
              go_simp; exact hK _ _ (Grow.refl _) rfl
            · intro w1 hg Ar seen
              have e0 := seen.de 0 25
              refine does_plain rfl fun K Q' hK => ?_
              have hc := cell_of_block (j := 1) ((hg.block _ (block_lt HG5.out)).trans HG5.out) (v := .int .i64 y.status) rfl
              go_simp; exact hK _ _ (Grow.refl _) rfl
            · intro w1 hg Ar seen
              have e1 := seen.de 1 26
              refine does_plain rfl fun K Q' hK => ?_
              go_simp
              refine (pick_any y.status 4 _ (by omega) (by omega)).mono ?_
              rintro e u ⟨rfl, rfl⟩
              exact hK _ _ (Grow.refl _) rfl
            · intro w1 hg Ar seen
              refine does_plain rfl fun K Q' hK => ?_
              go_simp; exact hK _ _ (Grow.refl _) rfl
            · intro w1 hg Ar seen
              have s7 := seen.sl 7 (.pointer (some ⟨g, 0, none⟩))
              refine does_plain rfl fun K Q' hK => ?_
              go_simp; exact hK _ _ (Grow.refl _) rfl
            · intro w1 hg Ar seen
              have e4 := seen.de 4 29
              refine does_plain rfl fun K Q' hK => ?_
              have hc := cell_of_block (j := 2) ((hg.block _ (block_lt HG5.out)).trans HG5.out) (v := .int .i64 y.reason) rfl
              go_simp; exact hK _ _ (Grow.refl _) rfl
            · intro w1 hg Ar seen
              have e5 := seen.de 5 30
              refine does_plain rfl fun K Q' hK => ?_
              go_simp
              refine (pick_any y.reason 5 _ (by omega) (by omega)).mono ?_
              rintro e u ⟨rfl, rfl⟩
              exact hK _ _ (Grow.refl _) rfl
            · intro w1 hg Ar seen
              have e3 := seen.de 3 28
              have e6 := seen.de 6 31
              refine does_plain rfl fun K Q' hK => ?_
              refine wp_index_row _ _ rfl Tryd.underlying48 sizeIntR Tryd.underlying3 rfl (intsV rsnL) (by simp [Act.eval, e3]; rfl) _ (by simp [Act.eval, e6]) (pickN y.reason 5) (pickN_eq _ _ (by omega)) _ (pickN_lt _ 5 (by omega)) (intsV_get rsnL _ (pickN_lt _ 5 (by omega))) ?_
              exact hK _ _ (Grow.refl _) rfl
            · intro w1 hg Ar seen
              refine does_plain rfl fun K Q' hK => ?_
              go_simp; exact hK _ _ (Grow.refl _) rfl
            · intro w1 hg Ar seen
              have s7 := seen.sl 7 (.pointer (some ⟨g, 0, none⟩))
              refine does_plain rfl fun K Q' hK => ?_
              go_simp; exact hK _ _ (Grow.refl _) rfl
            · intro w1 hg Ar seen
              have e9 := seen.de 9 34
              refine does_plain rfl fun K Q' hK => ?_
              have hc := cell_of_block (j := 2) ((hg.block _ (block_lt HG5.out)).trans HG5.out) (v := .int .i64 y.reason) rfl
              go_simp; exact hK _ _ (Grow.refl _) rfl
            · intro w1 hg Ar seen
              have e10 := seen.de 10 35
              refine does_plain rfl fun K Q' hK => ?_
              have hs := HSX.out
              go_simp; exact hK _ _ (Grow.refl _) rfl
            · intro w1 hg Ar seen
              have e11 := seen.de 11 36
              refine does_plain rfl fun K Q' hK => ?_
              go_simp
              refine (pick_any (y.reason.tdiv 5) 4 _ (by omega) (by omega)).mono ?_
              rintro e u ⟨rfl, rfl⟩
              exact hK _ _ (Grow.refl _) rfl
            · intro w1 hg Ar seen
              have e8 := seen.de 8 33
              have e12 := seen.de 12 37
              refine does_plain rfl fun K Q' hK => ?_
              refine wp_index_row _ _ rfl Tryd.underlying49 sizeStrR Tryd.underlying9 rfl (strsV msgL) (by simp [Act.eval, e8]; rfl) _ (by simp [Act.eval, e12]) (pickN (y.reason.tdiv 5) 4) (pickN_eq _ _ (by omega)) _ (pickN_lt _ 4 (by omega)) (strsV_get msgL _ (pickN_lt _ 4 (by omega))) ?_
              exact hK _ _ (Grow.refl _) rfl
            · intro w1 hg Ar seen
              have e2 := seen.de 2 27
              have e7 := seen.de 7 32
              have e13 := seen.de 13 38
              refine does_plain rfl fun K Q' hK => ?_
              refine wp_build_obj 51 _ rfl #[(4, .int .i64 (pick y.status 4)), (5, .int .i64 (rsnL.getD (pickN y.reason 5) 0)), (6, .string (msgL.getD (pickN (y.reason.tdiv 5) 4) ByteArray.empty))] (by simp [Act.eval, e2, e7, e13]) _ (sBuildRow _ _ _ _) ?_
              exact hK _ _ (Grow.refl _) rfl
            · intro w1 hg Ar seen
              refine does_plain rfl fun K Q' hK => ?_
              refine wp_alloc_obj 51 rfl rsZ.arr sZero ?_
              exact hK _ _ ((Below.refl _ _).alloc (Nat.le_refl _) _) ⟨_, rfl, block_new _ _, Nat.le_trans (Nat.le_of_eq HC5.out) hg.size⟩
        intro w1 hg
        refine upon_w' (js := [0, 1, 2, 3, 4, 5, 6, 7, 8, 9, 10, 11, 12, 13, 14, 15]) (by rfl) ?_
        refine upon_e (some 25) (upon_e (some 26) (upon_e (some 27) (upon_e (some 28) (upon_e (some 29) (upon_e (some 30) (upon_e (some 31) (upon_e (some 32) (upon_e (some 33) (upon_e (some 34) (upon_e (some 35) (upon_e (some 36) (upon_e (some 37) (upon_e (some 38) (upon_e (some 39) (upon_v (some 8) fun v15 h15 => upon_n ?_)))))))))))))))
        obtain ⟨q, rfl, hq, hqc⟩ := h15
        have HQ1 := hid hq; have HQC := hid hqc
        have HG1 := hid hg
        clear hq hqc hg
        go_simp
        go_upto_region 7 with (refine wpList_store_obj rfl 51 _ _ rfl q rfl (RsIV.arr { status := pick y.status 4, reason := (rsnL.getD (pickN y.reason 5) 0), msg := (msgL.getD (pickN (y.reason.tdiv 5) 4) ByteArray.empty) }) rfl _ _ HQ1.out rfl sSize (sarr_one _) ?_; intro w7 hb7 hc7 hs7; have HQ7 := hid hb7; have HC7 := hid hc7; clear hb7 hc7 hs7)
        have hcut : ∃ v : RsIV, w7.heap[q]? = some (.cells v.arr 51 (0, 0)) ∧ v.ok w7 ∧ (∀ k ∈ v.foot, c5 ≤ k ∧ k ≠ q) ∧ GoodI v.rq ∧ Below c5 w5 w7 := ⟨{ status := pick y.status 4, reason := (rsnL.getD (pickN y.reason 5) 0), msg := (msgL.getD (pickN (y.reason.tdiv 5) 4) ByteArray.empty) }, HQ7.out, ⟨SlC.nil _, ItV.ok.zero _ _ _ _⟩, (fun k hk => by simp [RsIV.foot, Sl.blk] at hk; have := foot_flat hk; simp [Sl.blk] at this), goodI_new (pick_lo _ _ (by omega)) (pick_hi _ _ (by omega)), by rw [HC5.out]; exact Below.trans (show Below w5.heap.size w5 w1 from HG1.out) (HC7.out.below (B := w5.heap.size) (fun k hk => by rw [List.mem_singleton.1 hk, ← HC5.out]; exact HQC.out) HG1.out.size)⟩
        clear HQ1 HG1 HQ7 HC7 HSX
        generalize (rsnL.getD (pickN y.reason 5) 0) = rs0 at *
        generalize (msgL.getD (pickN (y.reason.tdiv 5) 4) ByteArray.empty) = ms0 at *
        obtain ⟨v, hv, hvo, hvf, hvm, hvb⟩ := hcut
        have HQ := hid hv; have HVO := hid hvo; have HVF := hid hvf; have HVM := hid hvm; have HVB := hid hvb
        have HGB : Hid (w7.heap[g]? = some (.cells y.cells.toArray 46 (0, 0))) := (hvb.block _ HGC.out).trans HG5.out
        clear hv hvo hvf hvm hvb
        have ch : w7.cell? ⟨g, 3, none⟩ = some (.int .i64 y.how) := cell_of_block (j := 3) HGB.out rfl
        go_upto_if 43 with (fail)
        clear ch
        go_cut [] (fun wx => ∃ v : RsIV, wx.heap[q]? = some (.cells v.arr 51 (0, 0)) ∧ v.ok wx ∧ (∀ k ∈ v.foot, c5 ≤ k ∧ k ≠ q) ∧ GoodI v.rq ∧ Below c5 w5 wx)
        case first =>
          by_cases hh : y.how.tmod 2 = 0
          · have hb0 : (y.how.tmod 2 == 0) = true := by simpa using hh
            have q1 : w7.cell? ⟨q, 1, none⟩ = some (.bool v.hasOp) := cell_of_block (j := 1) HQ.out (rx1 v)
            have hfz : ∀ j, w7.frozen? ⟨q, j, none⟩ = false := fun j => frozen_of_block HQ.out
            have HQ8 : Hid ((w7.setCell ⟨q, 1, none⟩ (.bool true)).heap[q]? = some (.cells (RsIV.arr { v with hasOp := true }) 51 (0, 0))) := block_setCell (j := 1) HQ.out _
            have hch : Chg [q] w7 (w7.setCell ⟨q, 1, none⟩ (.bool true)) := (Chg.refl [q] w7).setCell (.inl (by simp)) _
            have HGB8 := hid ((hch.block _ (block_lt HGB.out) (by have := HGC.out; have := HQC.out; simp; omega)).trans HGB.out)
            go_upto_region 9 with (fail)
            clear q1 hfz hb0
            have HCH := hid hch
            clear hch
            generalize w7.setCell ⟨q, 1, none⟩ (.bool true) = w8 at *
            have c0 : w8.cell? ⟨g, 0, none⟩ = some (.int .i64 y.op) := cell_of_block (j := 0) HGB8.out rfl
            have q0 : w8.cell? ⟨q, 0, none⟩ = some (.int .i64 v.op) := cell_of_block (j := 0) HQ8.out (rx0 v)
            have hfz : ∀ j, w8.frozen? ⟨q, j, none⟩ = false := fun j => frozen_of_block HQ8.out
            have HQ9 : Hid ((w8.setCell ⟨q, 0, none⟩ (.int .i64 (pick y.op 60))).heap[q]? = some (.cells (RsIV.arr { v with hasOp := true, op := pick y.op 60 }) 51 (0, 0))) := block_setCell (j := 0) HQ8.out _
            have HC9 : Hid (Chg [q] w7 (w8.setCell ⟨q, 0, none⟩ (.int .i64 (pick y.op 60)))) := HCH.out.setCell (.inl (by simp)) _
            go_wp2_with fail
            refine (pick_any y.op 60 _ (by omega) (by omega)).mono ?_
            rintro e u ⟨rfl, rfl⟩
            go_wp2_with fail
            go_meet
            exact ⟨{ v with hasOp := true, op := pick y.op 60 }, HQ9.out, RsIV.ok.keep HC9.out (x := { v with hasOp := true, op := pick y.op 60 }) ⟨HVO.out.ids, HVO.out.pay⟩ (fun k hk hm => (HVF.out k hk).2 (List.mem_singleton.1 hm)), HVF.out, HVM.out.oped (pick_lo _ _ (by omega)) (pick_hi _ _ (by omega)), HVB.out.trans (HC9.out.below (fun k hk => by rw [List.mem_singleton.1 hk]; exact HQC.out) (by rw [HC5.out]; exact HVB.out.size))⟩
          · have hb0 : (y.how.tmod 2 == 0) = false := by simpa using hh
            go_wp2_with fail
            go_meet
            exact ⟨v, HQ.out, HVO.out, HVF.out, HVM.out, HVB.out⟩
        case rest =>
          clear HQ HVO HVF HVM HVB HGB
          obtain ⟨v, hv, hvo, hvf, hvm, hvb⟩ := hcut
          have HQ := hid hv; have HVO := hid hvo; have HVF := hid hvf; have HVM := hid hvm; have HVB := hid hvb
          have HGB : Hid (wc.heap[g]? = some (.cells y.cells.toArray 46 (0, 0))) := (hvb.block _ HGC.out).trans HG5.out
          clear hv hvo hvf hvm hvb
          have ch : wc.cell? ⟨g, 3, none⟩ = some (.int .i64 y.how) := cell_of_block (j := 3) HGB.out rfl
          go_upto_if 52 with (fail)
          clear ch
          rename World => w7
          go_cut [] (fun wx => ∃ v : RsIV, wx.heap[q]? = some (.cells v.arr 51 (0, 0)) ∧ v.ok wx ∧ (∀ k ∈ v.foot, c5 ≤ k ∧ k ≠ q) ∧ GoodI v.rq ∧ Below c5 w5 wx)
          case first =>
            by_cases hh : y.how.tmod 3 = 0
            · have hb0 : (y.how.tmod 3 == 0) = true := by simpa using hh
              have q1 : w7.cell? ⟨q, 2, none⟩ = some (.bool v.hasId) := cell_of_block (j := 2) HQ.out (rx2 v)
              have hfz : ∀ j, w7.frozen? ⟨q, j, none⟩ = false := fun j => frozen_of_block HQ.out
              have HQ8 : Hid ((w7.setCell ⟨q, 2, none⟩ (.bool true)).heap[q]? = some (.cells (RsIV.arr { v with hasId := true }) 51 (0, 0))) := block_setCell (j := 2) HQ.out _
              have hch : Chg [q] w7 (w7.setCell ⟨q, 2, none⟩ (.bool true)) := (Chg.refl [q] w7).setCell (.inl (by simp)) _
              have HGB8 := hid ((hch.block _ (block_lt HGB.out) (by have := HGC.out; have := HQC.out; simp; omega)).trans HGB.out)
              go_upto_region 12 with (fail)
              clear q1 hfz hb0
              have HCH := hid hch
              have HC58 : Hid (Below c5 w5 (w7.setCell ⟨q, 2, none⟩ (.bool true))) := HVB.out.trans (hch.below (fun k hk => by rw [List.mem_singleton.1 hk]; exact HQC.out) (by rw [HC5.out]; exact HVB.out.size))
              clear hch
              generalize w7.setCell ⟨q, 2, none⟩ (.bool true) = w8 at *
              have c4 : w8.cell? ⟨g, 4, none⟩ = some (.slice y.ida y.idn y.idc) := cell_of_block (j := 4) HGB8.out rfl
              have HY8 := hid (HY5.out.below (by rw [← HC5.out]; exact HC58.out))
              go_wp2_with fail
              refine (few_any y.ida y.idn y.idc 50 y.id _ HY8.out.rd HY8.out.nc (by have h1 := HY8.out.nc; have h2 := HY8.out.sm; omega) HY8.out.no (by decide)).mono ?_
              rintro e w9 ⟨af, cf, rfl, hown, hb9⟩
              have HOW := hid hown
              have HQ9 := hid ((hb9.block _ (block_lt HQ8.out)).trans HQ8.out)
              have HB9 := hid hb9
              have HC8Z : Hid (c5 ≤ w8.heap.size) := by show c5 ≤ _; rw [HC5.out]; exact HC58.out.size
              have HQ8L := hid (block_lt HQ8.out)
              clear hown hb9 c4
              have q3 : w9.cell? ⟨q, 3, none⟩ = some (.slice v.ids.a v.ids.n v.ids.c) := cell_of_block (j := 3) HQ9.out (rx3 v)
              have hfz : ∀ j, w9.frozen? ⟨q, j, none⟩ = false := fun j => frozen_of_block HQ9.out
              have HQ10 : Hid ((w9.setCell ⟨q, 3, none⟩ (.slice af (min y.idn 50) cf)).heap[q]? = some (.cells (RsIV.arr { v with hasId := true, id := y.id.take 50, ids := ⟨af, min y.idn 50, cf⟩ }) 51 (0, 0))) := block_setCell (j := 3) HQ9.out _
              have HC10 : Hid (Chg [q] w9 (w9.setCell ⟨q, 3, none⟩ (.slice af (min y.idn 50) cf))) := (Chg.refl [q] w9).setCell (.inl (by simp)) _
              have HID : Hid (SlC w9 ⟨af, min y.idn 50, cf⟩ ((y.id.take 50).map B8)) := SlC.of_own (s := ⟨af, min y.idn 50, cf⟩) HOW.out (by simp only; omega)
              have HIB : Hid (∀ k ∈ Sl.blk ⟨af, min y.idn 50, cf⟩, w8.heap.size ≤ k) := fun k hk => blk_own (s := ⟨af, min y.idn 50, cf⟩) HOW.out k hk
              have HPY : Hid (v.pay.ok w9) := ItV.ok.below (ItV.ok.keep HCH.out HVO.out.pay (fun k hk hm => (HVF.out k (List.mem_append_right _ hk)).2 (List.mem_singleton.1 hm))) HB9.out
              go_wp2_with fail
              go_meet
              exact ⟨{ v with hasId := true, id := y.id.take 50, ids := ⟨af, min y.idn 50, cf⟩ }, HQ10.out, RsIV.ok.keep HC10.out (x := { v with hasId := true, id := y.id.take 50, ids := ⟨af, min y.idn 50, cf⟩ }) ⟨HID.out, HPY.out⟩ (fun k hk hm => by rcases List.mem_append.1 hk with h | h; (have h1 := HIB.out k h; have h2 := HQ8L.out; have h3 := List.mem_singleton.1 hm; omega); exact (HVF.out k (List.mem_append_right _ h)).2 (List.mem_singleton.1 hm)), (fun k hk => by rcases List.mem_append.1 hk with h | h; exact ⟨Nat.le_trans HC8Z.out (HIB.out k h), by have h1 := HIB.out k h; have h2 := HQ8L.out; omega⟩; exact HVF.out k (List.mem_append_right _ h)), HVM.out.ided (by rw [List.length_take]; omega), (HC58.out.trans (HB9.out.mono HC8Z.out)).trans (HC10.out.below (fun k hk => by rw [List.mem_singleton.1 hk]; exact HQC.out) (Nat.le_trans HC8Z.out HB9.out.size))⟩
            · have hb0 : (y.how.tmod 3 == 0) = false := by simpa using hh
              go_wp2_with fail
              go_meet
              exact ⟨v, HQ.out, HVO.out, HVF.out, HVM.out, HVB.out⟩
          case rest =>
            clear HQ HVO HVF HVM HVB HGB
            obtain ⟨v, hv, hvo, hvf, hvm, hvb⟩ := hcut
            have HQ := hid hv; have HVO := hid hvo; have HVF := hid hvf; have HVM := hid hvm; have HVB := hid hvb
            have HGB : Hid (wc.heap[g]? = some (.cells y.cells.toArray 46 (0, 0))) := (hvb.block _ HGC.out).trans HG5.out
            clear hv hvo hvf hvm hvb
            have ch : wc.cell? ⟨g, 3, none⟩ = some (.int .i64 y.how) := cell_of_block (j := 3) HGB.out rfl
            go_upto_if 61 with (fail)
            clear ch
            rename World => w7
            go_cut [] (fun wx => ∃ v : RsIV, wx.heap[q]? = some (.cells v.arr 51 (0, 0)) ∧ v.ok wx ∧ (∀ k ∈ v.foot, c5 ≤ k ∧ k ≠ q) ∧ GoodI v.rq ∧ Below c5 w5 wx)
            case first =>
              by_cases hh : y.how.tmod 5 < 2
              · have hb0 : decide (y.how.tmod 5 < 2) = true := by simpa using hh
                have q1 : w7.cell? ⟨q, 12, none⟩ = some (.bool v.hasPay) := cell_of_block (j := 12) HQ.out (rx12 v)
                have hfz : ∀ j, w7.frozen? ⟨q, j, none⟩ = false := fun j => frozen_of_block HQ.out
                have HQ8 : Hid ((w7.setCell ⟨q, 12, none⟩ (.bool true)).heap[q]? = some (.cells (RsIV.arr { v with hasPay := true }) 51 (0, 0))) := block_setCell (j := 12) HQ.out _
                have hch : Chg [q] w7 (w7.setCell ⟨q, 12, none⟩ (.bool true)) := (Chg.refl [q] w7).setCell (.inl (by simp)) _
                have HGB8 := hid ((hch.block _ (block_lt HGB.out) (by have := HGC.out; have := HQC.out; simp; omega)).trans HGB.out)
                go_upto_region 15 with (fail)
                clear q1 hfz hb0
                have HCH := hid hch
                have HC58 : Hid (Below c5 w5 (w7.setCell ⟨q, 12, none⟩ (.bool true))) := HVB.out.trans (hch.below (fun k hk => by rw [List.mem_singleton.1 hk]; exact HQC.out) (by rw [HC5.out]; exact HVB.out.size))
                clear hch
                generalize w7.setCell ⟨q, 12, none⟩ (.bool true) = w8 at *
                have c7 : w8.cell? ⟨g, 7, none⟩ = some (.int .i64 y.a) := cell_of_block (j := 7) HGB8.out rfl
                have HIT : Hid (ItV.ok (w8.alloc (.cells (ItV.arr { tag := 4325384, typ := 2, int := wrap64 (wrap32 y.a) }) 30)) { tag := 4325500, typ := 1, ks := ⟨some ⟨w8.heap.size, 0, none⟩, 1, 1⟩, kids := [{ tag := 4325384, typ := 2, int := wrap64 (wrap32 y.a) }] }) := ItV.ok_iff.2 ⟨SlC.nil _, SlR.built (by simp [itmCells, ItV.cells]) rfl (by decide), fun y0 hy0 => by rw [List.mem_singleton.1 hy0]; exact numV_ok _ _ _ _⟩
                have hba : Below w8.heap.size w8 (w8.alloc (.cells (ItV.arr { tag := 4325384, typ := 2, int := wrap64 (wrap32 y.a) }) 30)) := (Below.refl _ _).alloc (Nat.le_refl _) _
                have HQ9 := hid ((hba.block _ (block_lt HQ8.out)).trans HQ8.out)
                have HIDS : Hid (SlC (w8.alloc (.cells (ItV.arr { tag := 4325384, typ := 2, int := wrap64 (wrap32 y.a) }) 30)) v.ids (v.id.map B8)) := (HVO.out.ids.keep HCH.out (fun k hk hm => (HVF.out k (List.mem_append_left _ hk)).2 (List.mem_singleton.1 hm))).below hba
                have HC8Z : Hid (c5 ≤ w8.heap.size) := by show c5 ≤ _; rw [HC5.out]; exact HC58.out.size
                have HQ8L := hid (block_lt HQ8.out)
                have HPF : Hid (∀ k ∈ RsIV.foot { v with hasPay := true, pay := { tag := 4325500, typ := 1, ks := ⟨some ⟨w8.heap.size, 0, none⟩, 1, 1⟩, kids := [{ tag := 4325384, typ := 2, int := wrap64 (wrap32 y.a) }] } }, c5 ≤ k ∧ k ≠ q) := fun k hk => by
                  rcases List.mem_append.1 hk with h | h
                  · exact HVF.out k (List.mem_append_left _ h)
                  · rcases ItV.mem_foot.1 h with h' | h' | ⟨y0, hy0, h'⟩
                    · simp [Sl.blk] at h'
                    · simp [Sl.blk] at h'; have h1 := HC8Z.out; have h2 := HQ8L.out; omega
                    · rw [List.mem_singleton.1 hy0] at h'; exact absurd h' (fun h9 => numV_foot (fun _ => False) _ h9)
                have HBA := hid hba
                clear hba
                go_wp2_with (first | (refine wpList_build_item rfl 28 30 _ rfl { tag := 4325384, typ := 2, int := wrap64 (wrap32 y.a) } rfl i Tryd.underlying28 hi hz0 hz1 ?_) | (refine wpList_store_part rfl 30 _ _ rfl q 7 (ItV.arr { tag := 4325500, typ := 1, ks := ⟨some ⟨w8.heap.size, 0, none⟩, 1, 1⟩, kids := [{ tag := 4325384, typ := 2, int := wrap64 (wrap32 y.a) }] }) rfl rfl HQ9.out (show 7 + 5 ≤ 13 by decide) iSize (arr_one _) (RsIV.arr { v with hasPay := true, pay := { tag := 4325500, typ := 1, ks := ⟨some ⟨w8.heap.size, 0, none⟩, 1, 1⟩, kids := [{ tag := 4325384, typ := 2, int := wrap64 (wrap32 y.a) }] } }) rfl ?_; intro w10 hb10 hc10; have HQ10 := hid hb10; have HC10 := hid hc10; clear hb10 hc10))
                go_meet
                exact ⟨{ v with hasPay := true, pay := { tag := 4325500, typ := 1, ks := ⟨some ⟨w8.heap.size, 0, none⟩, 1, 1⟩, kids := [{ tag := 4325384, typ := 2, int := wrap64 (wrap32 y.a) }] } }, HQ10.out, RsIV.ok.keep HC10.out (x := { v with hasPay := true, pay := { tag := 4325500, typ := 1, ks := ⟨some ⟨w8.heap.size, 0, none⟩, 1, 1⟩, kids := [{ tag := 4325384, typ := 2, int := wrap64 (wrap32 y.a) }] } }) ⟨HIDS.out, HIT.out⟩ (fun k hk hm => by have h1 := (HPF.out k hk).2; exact h1 (List.mem_singleton.1 hm)), (fun k hk => HPF.out k hk), goodI_paid HVM.out y.a (by rw [ItV.it_eq]; rfl), (HC58.out.trans (HBA.out.mono HC8Z.out)).trans (HC10.out.below (fun k hk => by rw [List.mem_singleton.1 hk]; exact HQC.out) (Nat.le_trans HC8Z.out HBA.out.size))⟩
              · have hb0 : decide (y.how.tmod 5 < 2) = false := by simpa using hh
                go_wp2_with fail
                go_meet
                exact ⟨v, HQ.out, HVO.out, HVF.out, HVM.out, HVB.out⟩
            case rest =>
              clear HQ HVO HVF HVM HVB HGB
              obtain ⟨v, hv, hvo, hvf, hvm, hvb⟩ := hcut
              have HQ' := hid hv; have HVO' := hid hvo; have HVF' := hid hvf; have HVM' := hid hvm; have HVB' := hid hvb
              have HGB : Hid (wc.heap[g]? = some (.cells y.cells.toArray 46 (0, 0))) := (hvb.block _ HGC.out).trans HG5.out
              clear hv hvo hvf hvm hvb
              have hbe : Below w5.heap.size w5 wc := by rw [← HC5.out]; exact HVB'.out
              have HP6 := hid ((hbe.block _ (block_lt HP5.out)).trans HP5.out)
              have HB6 := hid ((hbe.block _ (block_lt HB5.out)).trans HB5.out)
              have HO6 := hid (HO5.out.below hbe)
              have HBW6 := hid (HBW5.out.trans (hbe.mono (by have := block_lt HB5.out; omega)))
              have HZ6 := hid (Nat.le_trans HZR5.out hbe.size)
              have HLT : Hid (∀ k, s.v.ownBlock = some k → k < c5) := fun k hk => by rw [HC5.out]; exact (HO5.out.own.lt k hk).2
              clear hbe
              have hc4 := cell_of_block (j := 1) HP6.out (rv1 _)
              simp only at hc4
              go_upto_region 4 with (first | (refine wpList_load_row rfl 51 _ rfl q rfl _ _ _ _ HQ'.out Tryd.underlying51 rfl sSize ?_) | (refine wpList_build_rs rfl 23 51 _ rfl v rfl iq Tryd.underlying23 hiq hy0 hy1 ?_) | (at_builtin; go_must (refine wpList_append_c rfl _ _ 23 rfl z 51 iq _ 13 152 Tryd.underlying23 hiq hy0 hy1 hy2 rfl (by decide) (.slice s.a s.n s.c) s.n _ rfl (HO6.out.below ((Below.refl _ _).alloc (Nat.le_refl _) (.cells v.arr 51))).own _ 1 _ v.cells rfl (RdC.new _ _ _ _ v.cells (by simp [RsIV.cells]) 13 rfl _ rfl) (by have := rs_one [v]; simpa [rsCells] using this) (fun hx => by cases hx) (by unfold maxLen; have := HSN.out; omega) (by have := HSN.out; omega) (by have := HZ6.out; simp; omega) ?_); intro a' c' w8 hown hgw hfr; have HO8 := hid hown; have HG8 := hid hgw; have HF8 := hid hfr; have hch : Chg s.v.ownBlock.toList wc w8 := ((Chg.refl _ wc).alloc _).grown hgw (fun k hk => .inl (by rw [hk]; simp)); have hpb8 := (hch.block p (block_lt HP6.out) (HO6.out.ahead HPZ.out)).trans HP6.out; have HPB8 := hid hpb8; have hq4 := cell_of_block (j := 1) hpb8 (rv1 _); have hfz : ∀ j, w8.frozen? ⟨p, j, none⟩ = false := (fun j => frozen_of_block HPB8.out); clear hown hgw hfr hch hpb8))
              clear hq4 hfz hc4
              have ho8 : OwnRs 51 w8 z ⟨a', s.n + 1, c'⟩ (lq ++ [v]) :=
                HO6.out.app ((Below.refl _ _).alloc (Nat.le_refl _) _) v HVO'.out (fun k hk he => by have h1 := HLT.out k he; have h2 := (HVF'.out k hk).1; omega) (by rw [rs_app]; simpa [rsCells] using HO8.out) HG8.out HF8.out
              have hch : Chg s.v.ownBlock.toList wc w8 := ((Chg.refl _ wc).alloc _).grown HG8.out (fun k hk => .inl (by rw [hk]; simp))
              have hcb : Chg [p] w8 (w8.setCell ⟨p, 1, none⟩ (.slice a' (s.n + 1) c')) := (Chg.refl [p] w8).setCell (.inl (by simp)) _
              have hpz := HPZ.out
              have hpb := HPB.out
              have hzc := HZC.out
              have hfl9 : ∀ x ∈ lq ++ [v], ∀ j ∈ x.foot, z ≤ j := fun x hx j hm => by
                rcases List.mem_append.1 hx with h' | h'
                · exact HFL.out x h' j hm
                · rw [List.mem_singleton.1 h'] at hm
                  have := (HVF'.out j hm).1; omega
              have hms9 : ∀ x ∈ lq ++ [v], GoodI x.rq := fun x hx => by
                rcases List.mem_append.1 hx with h' | h'
                · exact HMS.out x h'
                · rw [List.mem_singleton.1 h']; exact HVM'.out
              have ho9 := ho8.chg hcb (fun k hk hm => by have := List.mem_singleton.1 hm; subst this; exact ho8.ahead hpz (by rw [hk]; simp)) (fun x hx k hk hm => by have := List.mem_singleton.1 hm; have := hfl9 x hx k hk; omega)
              have hpb9 : (w8.setCell ⟨p, 1, none⟩ (.slice a' (s.n + 1) c')).heap[p]? = some (.cells (RsV.arr { time := tm, its := ⟨a', s.n + 1, c'⟩, items := lq ++ [v] }) 25 (0, 0)) := block_setCell HPB8.out _
              have hb8 := (hch.block b (block_lt HB6.out) (HO6.out.ahead (by omega))).trans HB6.out
              have hb9 := (hcb.block b (block_lt hb8) (by simp; omega)).trans hb8
              have hbs : b ≤ wc.heap.size := by have := block_lt HB6.out; omega
              have hbw9 : Below b w (w8.setCell ⟨p, 1, none⟩ (.slice a' (s.n + 1) c')) :=
                HBW6.out.trans ((hch.below (B := b) (fun k hk => by
                  rcases Nat.lt_or_ge k z with h' | h'
                  · exact absurd hk (HO6.out.ahead h')
                  · omega) hbs).trans (hcb.below (B := b) (fun k hk => by rw [List.mem_singleton.1 hk]; omega) (Nat.le_trans hbs hch.size)))
              have hz9 : z ≤ (w8.setCell ⟨p, 1, none⟩ (.slice a' (s.n + 1) c')).heap.size := Nat.le_trans HZ6.out (Nat.le_trans hch.size hcb.size)
              have H9 := hid (And.intro hpb9 (And.intro hb9 (And.intro ho9 (And.intro (show s.n + 1 ≤ k + 1 from Nat.succ_le_succ HSN.out) (And.intro hms9 (And.intro hfl9 (And.intro hbw9 hz9)))))))
              clear ho8 hch hcb hfl9 ho9 hpb9 hpb hpz hzc hb8 hb9 hbs hms9 hbw9 hz9
              go_wp2_with fail
              go_roundw
              case rel =>
                first
                  | exact ⟨k + 1, ⟨a', s.n + 1, c'⟩, lq ++ [v], by omega, by omega, by go_num, H9.out⟩
                  | ((repeat apply Exists.intro); exact ⟨⟨k + 1, ⟨a', s.n + 1, c'⟩, lq ++ [v], by omega, by omega, by go_num, H9.out⟩, rfl⟩)
              case measure => simp [intOf]; omega
      · go_wp2_with (first | (refine wpList_load_row rfl 25 _ rfl p rfl _ _ _ _ HP.out Tryd.underlying25 rfl pSize ?_) | (refine wpList_store_obj rfl 25 _ _ rfl b rfl (RsV.arr { time := tm, its := s, items := lq }) rfl _ _ HB.out rfl pSize (by simp [RsV.arr, Value.oneCell']) ?_; intro w10 hb10 hc10 hs10; have HB10 := hid hb10; have HC10 := hid hc10; clear hb10 hc10 hs10))
        refine bodyPost_ret (results_cell_row rfl _ _ b _ _ _ _ rfl HB10.out Tryd.underlying25 rfl pSize) rfl ?_
        have hlow : ∀ j, z ≤ j → j ∉ [b] := fun j hj hm => by have h1 := List.mem_singleton.1 hm; have h2 := HPZ.out; have h3 := HPB.out; omega
        refine ⟨{ time := tm, its := s, items := lq }, rfl, ⟨(HO.out.sl (by have := HSN.out; omega)).keep HC10.out (fun j hj hm => hlow j (blk_own HO.out.own j hj) hm), fun x hx => RsIV.ok.keep HC10.out (HO.out.ok x hx) (fun j hj hm => hlow j (HFL.out x hx j hj) hm)⟩, (by have := HSN.out; show s.n ≤ 8; omega), HMS.out, rfl, ?_⟩
        have hbs := block_lt HB.out
        exact HBW.out.trans (HC10.out.below (B := b) (fun k hk => by rw [List.mem_singleton.1 hk]; exact Nat.le_refl _) (by omega))
        
    · go_wp2_with (first | (refine wpList_load_row rfl 25 _ rfl p rfl _ _ _ _ HP.out Tryd.underlying25 rfl pSize ?_) | (refine wpList_store_obj rfl 25 _ _ rfl b rfl (RsV.arr { time := tm, its := s, items := lq }) rfl _ _ HB.out rfl pSize (by simp [RsV.arr, Value.oneCell']) ?_; intro w10 hb10 hc10 hs10; have HB10 := hid hb10; have HC10 := hid hc10; clear hb10 hc10 hs10))
      refine bodyPost_ret (results_cell_row rfl _ _ b _ _ _ _ rfl HB10.out Tryd.underlying25 rfl pSize) rfl ?_
      have hlow : ∀ j, z ≤ j → j ∉ [b] := fun j hj hm => by have h1 := List.mem_singleton.1 hm; have h2 := HPZ.out; have h3 := HPB.out; omega
      refine ⟨{ time := tm, its := s, items := lq }, rfl, ⟨(HO.out.sl (by have := HSN.out; omega)).keep HC10.out (fun j hj hm => hlow j (blk_own HO.out.own j hj) hm), fun x hx => RsIV.ok.keep HC10.out (HO.out.ok x hx) (fun j hj hm => hlow j (HFL.out x hx j hj) hm)⟩, (by have := HSN.out; show s.n ≤ 8; omega), HMS.out, rfl, ?_⟩
      have hbs := block_lt HB.out
      exact HBW.out.trans (HC10.out.below (B := b) (fun k hk => by rw [List.mem_singleton.1 hk]; exact Nat.le_refl _) (by omega))
      
theorem response_any (tm : Int) (l : List RwD) (a : Option Addr) (n c : Nat) (w : World) (hal : RwArgs w a n l) :
    Calls Tryd.prog 4 #[.int .i64 tm, .slice a n c] w fun e w' => ∃ v : RsV, e = .returned (.agg v.arr) ∧ v.ok w' ∧ v.its.n ≤ 8 ∧ (∀ x ∈ v.items, x.msg.size ≤ 8) ∧ Below w.heap.size w w' :=
  (response_all tm l a n c w hal).mono fun e w' ⟨v, h1, h2, h3, h4, _, h5⟩ => ⟨v, h1, h2, h3, fun x hx => (h4 x hx).ms, h5⟩
end Go.Proofs.YteenglgnakenmaaDoor
