/- Several texts in one. -/
import Derived.Test.YteenglgnakenmaaDoorParA
namespace Go.Proofs.YteenglgnakenmaaDoor
open Go.RowKit
set_option linter.unusedVariables false
set_option linter.unusedSimpArgs false
/-- An item of an answer, as data. -/
structure RsI where
  op : Int := 0
  hasOp : Bool := false
  hasId : Bool := false
  id : List UInt8 := []
  status : Int := 0
  reason : Int := 0
  msg : ByteArray := ⟨#[]⟩
  pay : Itm := {}
  hasPay : Bool := false
structure Rs where
  time : Int := 0
  items : List RsI := []
structure RsIV where
  op : Int := 0
  hasOp : Bool := false
  hasId : Bool := false
  id : List UInt8 := []
  ids : Sl := {}
  status : Int := 0
  reason : Int := 0
  msg : ByteArray := ⟨#[]⟩
  pay : ItV := {}
  hasPay : Bool := false
structure RsV where
  time : Int := 0
  its : Sl := {}
  items : List RsIV := []
instance : Inhabited RsI := ⟨{}⟩
instance : Inhabited RsIV := ⟨{}⟩
def RsIV.arr (x : RsIV) : Array Value := #[.int .i64 x.op, .bool x.hasOp, .bool x.hasId, .slice x.ids.a x.ids.n x.ids.c, .int .i64 x.status, .int .i64 x.reason, .string x.msg, .int .i64 x.pay.tag, .int .i64 x.pay.typ, .int .i64 x.pay.int, .slice x.pay.ds.a x.pay.ds.n x.pay.ds.c, .slice x.pay.ks.a x.pay.ks.n x.pay.ks.c, .bool x.hasPay]
def RsIV.cells (x : RsIV) : List Value := x.arr.toList
def RsV.arr (q : RsV) : Array Value := #[.int .i64 q.time, .slice q.its.a q.its.n q.its.c]
theorem rv0 (v : RsV) : v.arr[0]? = some (.int .i64 v.time) := rfl
theorem rv1 (v : RsV) : v.arr[1]? = some (.slice v.its.a v.its.n v.its.c) := rfl
theorem rx0 (v : RsIV) : v.arr[0]? = some (.int .i64 v.op) := rfl
theorem rx1 (v : RsIV) : v.arr[1]? = some (.bool v.hasOp) := rfl
theorem rx2 (v : RsIV) : v.arr[2]? = some (.bool v.hasId) := rfl
theorem rx3 (v : RsIV) : v.arr[3]? = some (.slice v.ids.a v.ids.n v.ids.c) := rfl
theorem rx4 (v : RsIV) : v.arr[4]? = some (.int .i64 v.status) := rfl
theorem rx5 (v : RsIV) : v.arr[5]? = some (.int .i64 v.reason) := rfl
theorem rx6 (v : RsIV) : v.arr[6]? = some (.string v.msg) := rfl
theorem rx7 (v : RsIV) : v.arr[7]? = some (.int .i64 v.pay.tag) := rfl
theorem rx12 (v : RsIV) : v.arr[12]? = some (.bool v.hasPay) := rfl
def rsCells (l : List RsIV) : List Value := l.flatMap RsIV.cells
def RsIV.rq (x : RsIV) : RsI := { op := x.op, hasOp := x.hasOp, hasId := x.hasId, id := x.id, status := x.status, reason := x.reason, msg := x.msg, pay := x.pay.it, hasPay := x.hasPay }
def RsV.rq (q : RsV) : Rs := { time := q.time, items := q.items.map RsIV.rq }
structure RsIV.ok (w : World) (x : RsIV) : Prop where
  ids : SlC w x.ids (x.id.map B8)
  pay : x.pay.ok w
def RsIV.foot (x : RsIV) : List Nat := x.ids.blk ++ x.pay.foot
structure RsV.ok (w : World) (q : RsV) : Prop where
  its : SlR w q.its 13 (rsCells q.items)
  each : ∀ x ∈ q.items, x.ok w
theorem RsIV.ok.lt {w : World} {x : RsIV} (h : x.ok w) : ∀ k ∈ x.foot, k < w.heap.size := fun k hk => by
  rcases List.mem_append.1 hk with h' | h'
  · exact h.ids.lt k h'
  · exact h.pay.lt k h'
theorem RsIV.ok.keep {w w' : World} {G : List Nat} (hc : Chg G w w') {x : RsIV} (h : x.ok w) (hd : Disj x.foot G) : x.ok w' :=
  ⟨h.ids.keep hc (fun k hk => hd k (List.mem_append_left _ hk)), ItV.ok.keep hc h.pay (fun k hk => hd k (List.mem_append_right _ hk))⟩
theorem RsIV.ok.below {w w' : World} {x : RsIV} (h : x.ok w) (hb : Below w.heap.size w w') : x.ok w' :=
  RsIV.ok.keep (Chg.of_below hb []) h (fun _ _ hm => by cases hm)
theorem RsV.ok.below {w w' : World} {q : RsV} (h : q.ok w) (hb : Below w.heap.size w w') : q.ok w' := ⟨h.its.below hb, fun x hx => (h.each x hx).below hb⟩
theorem rs_len (l : List RsIV) : (rsCells l).length = l.length * 13 := by
  induction l with
  | nil => rfl
  | cons v r ih => simp only [rsCells, List.flatMap_cons, List.length_append, List.length_cons]; have : v.cells.length = 13 := rfl; rw [this]; unfold rsCells at ih; rw [ih]; omega
theorem rs_app (l r : List RsIV) : rsCells (l ++ r) = rsCells l ++ rsCells r := by unfold rsCells; rw [List.flatMap_append]
theorem rs_one (l : List RsIV) : ∀ u ∈ rsCells l, u.oneCell' = true := by
  intro u hu
  obtain ⟨x, _, hx⟩ := List.mem_flatMap.1 hu
  simp [RsIV.cells, RsIV.arr] at hx
  rcases hx with rfl | rfl | rfl | rfl | rfl | rfl | rfl | rfl | rfl | rfl | rfl | rfl | rfl <;> rfl
theorem rs_get (l : List RsIV) : ∀ (k j : Nat) (v : RsIV), l[k]? = some v → j < 13 → (rsCells l)[k * 13 + j]? = v.cells[j]? := by
  induction l with
  | nil => intro k j v h; simp at h
  | cons x r ih =>
    intro k j v h hj
    have e : rsCells (x :: r) = x.cells ++ rsCells r := rfl
    have hl : x.cells.length = 13 := rfl
    cases k with
    | zero =>
      simp at h; subst h
      rw [e, List.getElem?_append_left (by omega)]
      simp
    | succ k =>
      rw [e, List.getElem?_append_right (by omega), ← ih k j v (by simpa using h) hj]
      congr 1; omega
theorem SlR.rslen {w : World} {s : Sl} {l : List RsIV} (h : SlR w s 13 (rsCells l)) : l.length = s.n := by
  have := h.rd.len; rw [rs_len] at this; omega
/-- The k-th item of a batch, whole. -/
theorem SlR.rsrow {w : World} {s : Sl} {l : List RsIV} (h : SlR w s 13 (rsCells l)) {k : Nat} (hk : k < s.n) :
    ∃ b off v, s.a = some ⟨b, off, none⟩ ∧ l[k]? = some v ∧ w.rangeAt b (off + k * 13) v.cells := by
  have hl := h.rslen
  obtain ⟨b, off, ha, hc⟩ := h.rd.cell 0 (by omega)
  have hv : l[k]? = some (l[k]'(by omega)) := List.getElem?_eq_getElem _
  refine ⟨b, off, l[k]'(by omega), ha, hv, fun j u hu => ?_⟩
  have hj : j < 13 := (List.getElem?_eq_some_iff.1 hu).1
  rw [Nat.add_assoc]
  exact hc (k * 13 + j) u ((rs_get l k j _ hv hj).trans hu)
/-- A row of items of a batch, of the call's own. -/
structure OwnRs (T : TypeId) (w : World) (base : Nat) (s : Sl) (l : List RsIV) : Prop where
  own : w.ownsRow base T 13 (.slice s.a s.n s.c) s.n (rsCells l)
  ok : ∀ x ∈ l, x.ok w
  apart : ∀ x ∈ l, ∀ k ∈ x.foot, s.v.ownBlock ≠ some k
section
variable {T : TypeId} {w w' : World} {base : Nat} {s : Sl} {l : List RsIV}
theorem OwnRs.nil (T : TypeId) (w : World) (base : Nat) : OwnRs T w base {} [] := ⟨World.ownsRow_nil w base T 13, by simp, by simp⟩
theorem OwnRs.chg (h : OwnRs T w base s l) {G : List Nat} (hc : Chg G w w') (hb : ∀ k, s.v.ownBlock = some k → k ∉ G) (hd : ∀ x ∈ l, Disj x.foot G) : OwnRs T w' base s l :=
  ⟨hc.owns h.own hb, fun x hx => RsIV.ok.keep hc (h.ok x hx) (hd x hx), h.apart⟩
theorem OwnRs.below (h : OwnRs T w base s l) (hb : Below w.heap.size w w') : OwnRs T w' base s l :=
  h.chg (Chg.of_below hb []) (fun k _ hm => by cases hm) (fun x _ k _ hm => by cases hm)
theorem OwnRs.len (h : OwnRs T w base s l) : l.length = s.n := by have := h.own.1; rw [rs_len] at this; omega
theorem OwnRs.sl (h : OwnRs T w base s l) (hn : s.n ≤ 1099511627776) : SlR w s 13 (rsCells l) := SlR.of_own h.own hn
theorem OwnRs.ahead (h : OwnRs T w base s l) {k : Nat} (hk : k < base) : k ∉ s.v.ownBlock.toList := fun hm => by
  have hk' : s.v.ownBlock = some k := by cases hv : s.v.ownBlock with
    | none => rw [hv] at hm; cases hm
    | some y => rw [hv] at hm; simp at hm; rw [hm]
  have := (h.own.lt k hk').1
  omega
theorem OwnRs.app {W : World} (h : OwnRs T w base s l) (hW : Below w.heap.size w W) (y : RsIV) (hy : y.ok w) (hap : ∀ k ∈ y.foot, s.v.ownBlock ≠ some k) {a : Option Addr} {n c : Nat}
    (ho : w'.ownsRow base T 13 (.slice a n c) n (rsCells (l ++ [y]))) (hg : W.grownBy w' s.v.ownBlock) (hf : (Value.slice a n c).ownBlock = s.v.ownBlock ∨ ∀ k, (Value.slice a n c).ownBlock = some k → W.heap.size ≤ k) : OwnRs T w' base ⟨a, n, c⟩ (l ++ [y]) := by
  have hc : Chg s.v.ownBlock.toList w w' := (Chg.of_below hW _).grown hg (fun k hk => .inl (by rw [hk]; simp))
  have hdis : ∀ x : RsIV, (∀ k ∈ x.foot, s.v.ownBlock ≠ some k) → Disj x.foot s.v.ownBlock.toList := fun x hx k hk hm => by
    cases hv : s.v.ownBlock with
    | none => rw [hv] at hm; cases hm
    | some z => rw [hv] at hm; simp at hm; subst hm; exact hx k hk hv
  have key : ∀ x ∈ l ++ [y], x.ok w ∧ (∀ k ∈ x.foot, s.v.ownBlock ≠ some k) := by
    intro x hx
    rcases List.mem_append.1 hx with h' | h'
    · exact ⟨h.ok x h', h.apart x h'⟩
    · rw [List.mem_singleton.1 h']; exact ⟨hy, hap⟩
  refine ⟨ho, fun x hx => RsIV.ok.keep hc (key x hx).1 (hdis x (key x hx).2), fun x hx k hk => ?_⟩
  rcases hf with h' | h'
  · rw [show Sl.v ⟨a, n, c⟩ = Value.slice a n c from rfl, h']; exact (key x hx).2 k hk
  · intro he
    have h1 := h' k he
    have h2 := (key x hx).1.lt k hk
    have h3 := hW.size
    omega
end

/- The plain law: what is read and laid. -/
def rItemF : List Fld := [maybeF 4325468 5, maybeF 4325523 8, needF 4325503 5, maybeF 4325502 5, maybeF 4325501 7, maybeF 4325500 1]
def rMsgF : List Fld := [needF 4325498 1, manyF 4325391 1]
def rHeadF : List Fld := [needF 4325481 1, needF 4325522 9, needF 4325389 2]
def rVerF : List Fld := [needF 4325482 2, needF 4325483 2]
def readRsI (i : Itm) : Except Int RsI :=
  match parseV rItemF i with
  | .error c => .error c
  | .ok r => .ok { op := numV (r.getD 0 []) 0, hasOp := !(r.getD 0 []).isEmpty, hasId := !(r.getD 1 []).isEmpty, id := (firstI (r.getD 1 [])).data, status := numV (r.getD 2 []) 0, reason := numV (r.getD 3 []) 0, msg := ⟨(firstI (r.getD 4 [])).data.toArray⟩, pay := firstI (r.getD 5 []), hasPay := !(r.getD 5 []).isEmpty }
def readRsIs : List Itm → Except Int (List RsI)
  | [] => .ok []
  | i :: r => match readRsI i with
    | .error c => .error c
    | .ok x => match readRsIs r with
      | .error c => .error c
      | .ok l => .ok (x :: l)
def readRs (i : Itm) : Except Int Rs :=
  if i.tag ≠ 4325499 then .error 4 else
  match parseV rMsgF i with
  | .error c => .error c
  | .ok m => match parseV rHeadF (firstI (m.getD 0 [])) with
    | .error c => .error c
    | .ok h => match parseV rVerF (firstI (h.getD 0 [])) with
      | .error c => .error c
      | .ok v => match readRsIs (m.getD 1 []) with
        | .error c => .error c
        | .ok l => if numV (v.getD 0 []) 0 != 1 || numV (v.getD 1 []) 0 != 4 || numV (h.getD 2 []) 0 != (l.length : Int) then .error 4 else .ok { time := (firstI (h.getD 1 [])).int, items := l }
def rsKids (x : RsI) : List Itm := (if x.hasOp then [numI 4325468 5 x.op] else []) ++ (if x.hasId then [{ tag := 4325523, typ := 8, data := x.id }] else []) ++ [numI 4325503 5 x.status] ++ (if x.reason ≠ 0 then [numI 4325502 5 x.reason] else []) ++ (if x.msg.toList ≠ [] then [{ tag := 4325501, typ := 7, data := x.msg.data.toList }] else [])
def layRsI (x : RsI) : Itm := ofI 4325391 (rsKids x ++ (if x.hasPay then [x.pay] else []))
def layRsHead (time n : Int) : Itm := ofI 4325498 [ofI 4325481 [numI 4325482 2 1, numI 4325483 2 4], numI 4325522 9 time, numI 4325389 2 n]
def layRs (q : Rs) : Itm := ofI 4325499 (layRsHead q.time q.items.length :: q.items.map layRsI)
theorem rows6 {r : List (List Itm)} (h : r.length = 6) : ∃ a b c d e f, r = [a, b, c, d, e, f] := by
  match r, h with
  | [a, b, c, d, e, f], _ => exact ⟨a, b, c, d, e, f, rfl⟩
end Go.Proofs.YteenglgnakenmaaDoor
namespace Go.Proofs.YteenglgnakenmaaDoor
open Go.RowKit
set_option linter.unusedVariables false
set_option linter.unusedSimpArgs false
set_option maxRecDepth 100000
set_option maxHeartbeats 1600000
theorem sneed_any (t k : Int) (w : World) : Calls Tryd.prog 23 #[.int .i64 t, .int .i64 k] w fun e w' => e = .returned (.agg (needF t k).arr) ∧ Below w.heap.size w w' := by
  generalize hbe : w.heap.size = b
  have HBE := hid hbe; clear hbe
  go_enter Tryd.func23, Tryd.ntmps23
  go_upto_region 1 with (refine wpList_alloc_obj rfl 64 rfl _ fZero ?_)
  go_simp
  have hbw : Below w.heap.size w (w.alloc (.cells fldZ.arr 64)) := (Below.refl _ _).alloc (Nat.le_refl _) _
  have hb0 := block_new w (.cells fldZ.arr 64)
  have hsz : (w.alloc (.cells fldZ.arr 64)).heap.size = w.heap.size + 1 := by simp
  rw [HBE.out] at hbw hb0 hsz ⊢
  have HBW := hid hbw; have HB0 := hid hb0; have HSZ := hid hsz
  clear hbw hb0 hsz
  generalize w.alloc (.cells fldZ.arr 64) = W at *
  have HB := HB0
  go_wp2_with (refine wpList_store_obj rfl 64 _ _ rfl b rfl (needF t k).arr rfl _ _ HB.out rfl fSize (farr_one _) ?_; intro w10 hb10 hc10 hs10; have HB10 := hid hb10; have HC10 := hid hc10; clear hb10 hc10 hs10)
  refine bodyPost_ret (results_cell_row rfl _ _ b _ _ _ _ rfl HB10.out Tryd.underlying64 rfl fSize) rfl ?_
  exact ⟨rfl, HBW.out.trans (HC10.out.below (fun k hk => by rw [List.mem_singleton.1 hk]; exact Nat.le_refl _) (by rw [HSZ.out]; omega))⟩
theorem smaybe_any (t k : Int) (w : World) : Calls Tryd.prog 36 #[.int .i64 t, .int .i64 k] w fun e w' => e = .returned (.agg (maybeF t k).arr) ∧ Below w.heap.size w w' := by
  generalize hbe : w.heap.size = b
  have HBE := hid hbe; clear hbe
  go_enter Tryd.func36, Tryd.ntmps36
  go_upto_region 1 with (refine wpList_alloc_obj rfl 64 rfl _ fZero ?_)
  go_simp
  have hbw : Below w.heap.size w (w.alloc (.cells fldZ.arr 64)) := (Below.refl _ _).alloc (Nat.le_refl _) _
  have hb0 := block_new w (.cells fldZ.arr 64)
  have hsz : (w.alloc (.cells fldZ.arr 64)).heap.size = w.heap.size + 1 := by simp
  rw [HBE.out] at hbw hb0 hsz ⊢
  have HBW := hid hbw; have HB0 := hid hb0; have HSZ := hid hsz
  clear hbw hb0 hsz
  generalize w.alloc (.cells fldZ.arr 64) = W at *
  have HB := HB0
  go_wp2_with (refine wpList_store_obj rfl 64 _ _ rfl b rfl (maybeF t k).arr rfl _ _ HB.out rfl fSize (farr_one _) ?_; intro w10 hb10 hc10 hs10; have HB10 := hid hb10; have HC10 := hid hc10; clear hb10 hc10 hs10)
  refine bodyPost_ret (results_cell_row rfl _ _ b _ _ _ _ rfl HB10.out Tryd.underlying64 rfl fSize) rfl ?_
  exact ⟨rfl, HBW.out.trans (HC10.out.below (fun k hk => by rw [List.mem_singleton.1 hk]; exact Nat.le_refl _) (by rw [HSZ.out]; omega))⟩
theorem stold_any (is : Bool) (v : ItV) (w : World) : Calls Tryd.prog 19 #[.bool is, .agg v.arr] w fun e w' => e = .returned (.agg (if is then v else itZ).arr) ∧ Below w.heap.size w w' := by
  generalize hbe : w.heap.size = b
  have HBE := hid hbe; clear hbe
  go_enter Tryd.func19, Tryd.ntmps19
  go_upto_region 1 with (refine wpList_alloc_obj rfl 30 rfl _ iZero ?_)
  go_simp
  have B0 := hid (Bx2.start (T := 30) (T' := 30) (cs := v.arr) (zs := itZ.arr) (w := w) HBE.out)
  rw [HBE.out]
  generalize (w.alloc (.cells v.arr 30)).alloc (.cells itZ.arr 30) = W at *
  cases is with
  | true =>
    go_wp2_with (first | (refine wpList_load_row rfl 30 _ rfl b rfl _ _ _ _ B0.out.box Tryd.underlying30 rfl iSize ?_) | (refine wpList_store_obj rfl 30 _ _ rfl (b + 1) rfl _ rfl _ _ B0.out.res rfl iSize (arr_one _) ?_; intro w10 hb10 hc10 hs10; have HB10 := hid hb10; have HC10 := hid hc10; clear hb10 hc10 hs10))
    refine bodyPost_ret (results_cell_row rfl _ _ (b + 1) _ _ _ _ rfl HB10.out Tryd.underlying30 rfl iSize) rfl ?_
    exact ⟨rfl, B0.out.done HC10.out⟩
  | false =>
    go_wp2_with (first | (refine wpList_build_obj rfl 30 _ rfl itZ.arr (iBuild0 _) ?_) | (refine wpList_store_obj rfl 30 _ _ rfl (b + 1) rfl itZ.arr rfl _ _ B0.out.res rfl iSize (arr_one _) ?_; intro w10 hb10 hc10 hs10; have HB10 := hid hb10; have HC10 := hid hc10; clear hb10 hc10 hs10))
    refine bodyPost_ret (results_cell_row rfl _ _ (b + 1) _ _ _ _ rfl HB10.out Tryd.underlying30 rfl iSize) rfl ?_
    exact ⟨rfl, B0.out.done HC10.out⟩
theorem snumber_any (s : Sl) (l : List ItV) (w : World) (hs : SlR w s 5 (itmCells l)) : Calls Tryd.prog 25 #[.slice s.a s.n s.c] w fun e w' => e = .returned (.int .i64 (numV (l.map ItV.it) 0)) ∧ w = w' := by
  have hl := hs.klen
  have hsm := hs.sm
  by_cases hn : s.n = 0
  · obtain rfl : l = [] := List.eq_nil_of_length_eq_zero (by omega)
    rw [hn]
    clear hn hl hs hsm
    go_enter Tryd.func25, Tryd.ntmps25
    go_wp2
    go_ret
    exact ⟨rfl, rfl⟩
  · obtain ⟨b, off, v, ha, hv, -, -, h2, -, -⟩ := hs.kid (k := 0) (by omega)
    have hr : numV (l.map ItV.it) 0 = v.int := by
      cases l with
      | nil => simp at hl; omega
      | cons x t => simp at hv; subst hv; rw [List.map_cons, ItV.it_eq]; rfl
    rw [hr, ha]
    have hn' : ((s.n : Int) == 0) = false := by simp; omega
    rw [Nat.zero_mul, Nat.add_zero] at h2
    clear hr ha hv hl hs
    go_enter Tryd.func25, Tryd.ntmps25
    go_wp2_with fail
    go_ret
    exact ⟨rfl, rfl⟩
end Go.Proofs.YteenglgnakenmaaDoor
namespace Go.Proofs.YteenglgnakenmaaDoor
open Go.RowKit
set_option linter.unusedVariables false
set_option linter.unusedSimpArgs false

/-- An item of a batch, as data. -/
structure RqI where
  op : Int := 0
  has : Bool := false
  id : List UInt8 := []
  pay : Itm := {}
/-- A request, as data. -/
structure Rq where
  major : Int := 0
  minor : Int := 0
  max : Int := 0
  opt : Int := 0
  items : List RqI := []
/-- An item of a batch with the places of its slices. -/
structure RqIV where
  op : Int := 0
  has : Bool := false
  id : List UInt8 := []
  ids : Sl := {}
  pay : ItV := {}
structure RqV where
  major : Int := 0
  minor : Int := 0
  max : Int := 0
  opt : Int := 0
  its : Sl := {}
  items : List RqIV := []
instance : Inhabited RqI := ⟨{}⟩
instance : Inhabited RqIV := ⟨{}⟩
def RqIV.arr (x : RqIV) : Array Value := #[.int .i64 x.op, .bool x.has, .slice x.ids.a x.ids.n x.ids.c, .int .i64 x.pay.tag, .int .i64 x.pay.typ, .int .i64 x.pay.int, .slice x.pay.ds.a x.pay.ds.n x.pay.ds.c, .slice x.pay.ks.a x.pay.ks.n x.pay.ks.c]
def RqIV.cells (x : RqIV) : List Value := x.arr.toList
def RqV.arr (q : RqV) : Array Value := #[.int .i64 q.major, .int .i64 q.minor, .int .i64 q.max, .int .i64 q.opt, .slice q.its.a q.its.n q.its.c]
theorem qr0 (v : RqV) : v.arr[0]? = some (.int .i64 v.major) := rfl
theorem qr1 (v : RqV) : v.arr[1]? = some (.int .i64 v.minor) := rfl
theorem qr2 (v : RqV) : v.arr[2]? = some (.int .i64 v.max) := rfl
theorem qr3 (v : RqV) : v.arr[3]? = some (.int .i64 v.opt) := rfl
theorem qr4 (v : RqV) : v.arr[4]? = some (.slice v.its.a v.its.n v.its.c) := rfl
def rqCells (l : List RqIV) : List Value := l.flatMap RqIV.cells
def RqIV.rq (x : RqIV) : RqI := { op := x.op, has := x.has, id := x.id, pay := x.pay.it }
def RqV.rq (q : RqV) : Rq := { major := q.major, minor := q.minor, max := q.max, opt := q.opt, items := q.items.map RqIV.rq }
structure RqIV.ok (w : World) (x : RqIV) : Prop where
  ids : SlC w x.ids (x.id.map B8)
  pay : x.pay.ok w
def RqIV.foot (x : RqIV) : List Nat := x.ids.blk ++ x.pay.foot
structure RqV.ok (w : World) (q : RqV) : Prop where
  its : SlR w q.its 8 (rqCells q.items)
  each : ∀ x ∈ q.items, x.ok w
theorem RqIV.ok.lt {w : World} {x : RqIV} (h : x.ok w) : ∀ k ∈ x.foot, k < w.heap.size := fun k hk => by
  rcases List.mem_append.1 hk with h' | h'
  · exact h.ids.lt k h'
  · exact h.pay.lt k h'
theorem RqIV.ok.keep {w w' : World} {G : List Nat} (hc : Chg G w w') {x : RqIV} (h : x.ok w) (hd : Disj x.foot G) : x.ok w' :=
  ⟨h.ids.keep hc (fun k hk => hd k (List.mem_append_left _ hk)), ItV.ok.keep hc h.pay (fun k hk => hd k (List.mem_append_right _ hk))⟩
theorem RqIV.ok.below {w w' : World} {x : RqIV} (h : x.ok w) (hb : Below w.heap.size w w') : x.ok w' :=
  RqIV.ok.keep (Chg.of_below hb []) h (fun _ _ hm => by cases hm)
theorem RqV.ok.below {w w' : World} {q : RqV} (h : q.ok w) (hb : Below w.heap.size w w') : q.ok w' := ⟨h.its.below hb, fun x hx => (h.each x hx).below hb⟩
theorem rq_len (l : List RqIV) : (rqCells l).length = l.length * 8 := by
  induction l with
  | nil => rfl
  | cons v r ih => simp only [rqCells, List.flatMap_cons, List.length_append, List.length_cons]; have : v.cells.length = 8 := rfl; rw [this]; unfold rqCells at ih; rw [ih]; omega
theorem rq_app (l r : List RqIV) : rqCells (l ++ r) = rqCells l ++ rqCells r := by unfold rqCells; rw [List.flatMap_append]
theorem rq_one (l : List RqIV) : ∀ u ∈ rqCells l, u.oneCell' = true := by
  intro u hu
  obtain ⟨x, _, hx⟩ := List.mem_flatMap.1 hu
  simp [RqIV.cells, RqIV.arr] at hx
  rcases hx with rfl | rfl | rfl | rfl | rfl | rfl | rfl | rfl <;> rfl
theorem rq_get (l : List RqIV) : ∀ (k j : Nat) (v : RqIV), l[k]? = some v → j < 8 → (rqCells l)[k * 8 + j]? = v.cells[j]? := by
  induction l with
  | nil => intro k j v h; simp at h
  | cons x r ih =>
    intro k j v h hj
    have e : rqCells (x :: r) = x.cells ++ rqCells r := rfl
    have hl : x.cells.length = 8 := rfl
    cases k with
    | zero =>
      simp at h; subst h
      rw [e, List.getElem?_append_left (by omega)]
      simp
    | succ k =>
      rw [e, List.getElem?_append_right (by omega), ← ih k j v (by simpa using h) hj]
      congr 1; omega
theorem SlR.qlen {w : World} {s : Sl} {l : List RqIV} (h : SlR w s 8 (rqCells l)) : l.length = s.n := by
  have := h.rd.len; rw [rq_len] at this; omega
/-- The k-th item of a batch, whole. -/
theorem SlR.rqrow {w : World} {s : Sl} {l : List RqIV} (h : SlR w s 8 (rqCells l)) {k : Nat} (hk : k < s.n) :
    ∃ b off v, s.a = some ⟨b, off, none⟩ ∧ l[k]? = some v ∧ w.rangeAt b (off + k * 8) v.cells := by
  have hl := h.qlen
  obtain ⟨b, off, ha, hc⟩ := h.rd.cell 0 (by omega)
  have hv : l[k]? = some (l[k]'(by omega)) := List.getElem?_eq_getElem _
  refine ⟨b, off, l[k]'(by omega), ha, hv, fun j u hu => ?_⟩
  have hj : j < 8 := (List.getElem?_eq_some_iff.1 hu).1
  rw [Nat.add_assoc]
  exact hc (k * 8 + j) u ((rq_get l k j _ hv hj).trans hu)
/-- A row of items of a batch, of the call's own. -/
structure OwnRq (T : TypeId) (w : World) (base : Nat) (s : Sl) (l : List RqIV) : Prop where
  own : w.ownsRow base T 8 (.slice s.a s.n s.c) s.n (rqCells l)
  ok : ∀ x ∈ l, x.ok w
  apart : ∀ x ∈ l, ∀ k ∈ x.foot, s.v.ownBlock ≠ some k
section
variable {T : TypeId} {w w' : World} {base : Nat} {s : Sl} {l : List RqIV}
theorem OwnRq.nil (T : TypeId) (w : World) (base : Nat) : OwnRq T w base {} [] := ⟨World.ownsRow_nil w base T 8, by simp, by simp⟩
theorem OwnRq.chg (h : OwnRq T w base s l) {G : List Nat} (hc : Chg G w w') (hb : ∀ k, s.v.ownBlock = some k → k ∉ G) (hd : ∀ x ∈ l, Disj x.foot G) : OwnRq T w' base s l :=
  ⟨hc.owns h.own hb, fun x hx => RqIV.ok.keep hc (h.ok x hx) (hd x hx), h.apart⟩
theorem OwnRq.below (h : OwnRq T w base s l) (hb : Below w.heap.size w w') : OwnRq T w' base s l :=
  h.chg (Chg.of_below hb []) (fun k _ hm => by cases hm) (fun x _ k _ hm => by cases hm)
theorem OwnRq.len (h : OwnRq T w base s l) : l.length = s.n := by have := h.own.1; rw [rq_len] at this; omega
theorem OwnRq.sl (h : OwnRq T w base s l) (hn : s.n ≤ 1099511627776) : SlR w s 8 (rqCells l) := SlR.of_own h.own hn
theorem OwnRq.ahead (h : OwnRq T w base s l) {k : Nat} (hk : k < base) : k ∉ s.v.ownBlock.toList := fun hm => by
  have hk' : s.v.ownBlock = some k := by cases hv : s.v.ownBlock with
    | none => rw [hv] at hm; cases hm
    | some y => rw [hv] at hm; simp at hm; rw [hm]
  have := (h.own.lt k hk').1
  omega
theorem OwnRq.app {W : World} (h : OwnRq T w base s l) (hW : Below w.heap.size w W) (y : RqIV) (hy : y.ok w) (hap : ∀ k ∈ y.foot, s.v.ownBlock ≠ some k) {a : Option Addr} {n c : Nat}
    (ho : w'.ownsRow base T 8 (.slice a n c) n (rqCells (l ++ [y]))) (hg : W.grownBy w' s.v.ownBlock) (hf : (Value.slice a n c).ownBlock = s.v.ownBlock ∨ ∀ k, (Value.slice a n c).ownBlock = some k → W.heap.size ≤ k) : OwnRq T w' base ⟨a, n, c⟩ (l ++ [y]) := by
  have hc : Chg s.v.ownBlock.toList w w' := (Chg.of_below hW _).grown hg (fun k hk => .inl (by rw [hk]; simp))
  have hdis : ∀ x : RqIV, (∀ k ∈ x.foot, s.v.ownBlock ≠ some k) → Disj x.foot s.v.ownBlock.toList := fun x hx k hk hm => by
    cases hv : s.v.ownBlock with
    | none => rw [hv] at hm; cases hm
    | some z => rw [hv] at hm; simp at hm; subst hm; exact hx k hk hv
  have key : ∀ x ∈ l ++ [y], x.ok w ∧ (∀ k ∈ x.foot, s.v.ownBlock ≠ some k) := by
    intro x hx
    rcases List.mem_append.1 hx with h' | h'
    · exact ⟨h.ok x h', h.apart x h'⟩
    · rw [List.mem_singleton.1 h']; exact ⟨hy, hap⟩
  refine ⟨ho, fun x hx => RqIV.ok.keep hc (key x hx).1 (hdis x (key x hx).2), fun x hx k hk => ?_⟩
  rcases hf with h' | h'
  · rw [show Sl.v ⟨a, n, c⟩ = Value.slice a n c from rfl, h']; exact (key x hx).2 k hk
  · intro he
    have h1 := h' k he
    have h2 := (key x hx).1.lt k hk
    have h3 := hW.size
    omega
end

/- The plain law: what is read and laid. -/
def itemF : List Fld := [needF 4325468 5, maybeF 4325523 8, needF 4325497 1]
def msgF : List Fld := [needF 4325495 1, manyF 4325391 1]
def headF : List Fld := [needF 4325481 1, maybeF 4325456 2, maybeF 4325390 5, maybeF 4325392 6, needF 4325389 2]
def verF : List Fld := [needF 4325482 2, needF 4325483 2]
def readItem (i : Itm) : Except Int RqI :=
  match parseV itemF i with
  | .error c => .error c
  | .ok r => .ok { op := numV (r.getD 0 []) 0, has := !(r.getD 1 []).isEmpty, id := (firstI (r.getD 1 [])).data, pay := firstI (r.getD 2 []) }
def numOk (n : Int) : Bool := decide (0 ≤ n) && decide (n ≤ 2147483647)
def rqRightI (x : RqI) : Bool := decide (0 ≤ x.op) && decide (x.op ≤ 4294967295) && (x.has || x.id.isEmpty) && x.pay.tag == 4325497 && x.pay.typ == 1 && x.pay.int == 0 && x.pay.data.isEmpty
def batchV (l : List RqI) : Bool := l.all (fun x => decide (l.length ≤ 1) || x.has) && decide (1 ≤ l.length) && decide (l.length ≤ 20)
def rightV (q : Rq) : Bool := numOk q.major && numOk q.minor && numOk q.max && q.items.all rqRightI && decide (1 ≤ q.opt) && decide (q.opt ≤ 3) && batchV q.items
def readItems : List Itm → Except Int (List RqI)
  | [] => .ok []
  | i :: r => match readItem i with
    | .error c => .error c
    | .ok x => match readItems r with
      | .error c => .error c
      | .ok l => .ok (x :: l)
def readV (i : Itm) : Except Int Rq :=
  if i.tag ≠ 4325496 then .error 4 else
  match parseV msgF i with
  | .error c => .error c
  | .ok m => match parseV headF (firstI (m.getD 0 [])) with
    | .error c => .error c
    | .ok h => match parseV verF (firstI (h.getD 0 [])) with
      | .error c => .error c
      | .ok v => match readItems (m.getD 1 []) with
        | .error c => .error c
        | .ok l =>
          let q : Rq := { major := numV (v.getD 0 []) 0, minor := numV (v.getD 1 []) 0, max := numV (h.getD 1 []) 0, opt := numV (h.getD 2 []) 2, items := l }
          if (!(h.getD 1 []).isEmpty && decide (q.max < 1)) || numV (h.getD 4 []) 0 != (l.length : Int) || !rightV q then .error 4 else .ok q
def layItem (x : RqI) : Itm := ofI 4325391 ([numI 4325468 5 x.op] ++ (if x.has then [{ tag := 4325523, typ := 8, data := x.id }] else []) ++ [x.pay])
def layHead (q : Rq) : Itm := ofI 4325495 ([ofI 4325481 [numI 4325482 2 q.major, numI 4325483 2 q.minor]] ++ (if q.max ≠ 0 then [numI 4325456 2 q.max] else []) ++ [numI 4325390 5 q.opt, numI 4325389 2 q.items.length])
def layV (q : Rq) : Itm := ofI 4325496 (layHead q :: q.items.map layItem)
end Go.Proofs.YteenglgnakenmaaDoor
namespace Go.Proofs.YteenglgnakenmaaDoor
open Go.RowKit
set_option linter.unusedVariables false
set_option linter.unusedSimpArgs false
set_option maxRecDepth 100000
set_option maxHeartbeats 3200000
def wordL : List (Int × ByteArray) := [(0, ⟨#[70, 105, 110, 101]⟩), (1, ⟨#[78, 111, 116, 70, 111, 117, 110, 100]⟩), (2, ⟨#[84, 111, 111, 76, 97, 114, 103, 101]⟩), (4, ⟨#[73, 110, 118, 97, 108, 105, 100]⟩), (5, ⟨#[85, 110, 115, 117, 112, 112, 111, 114, 116, 101, 100]⟩), (6, ⟨#[77, 105, 115, 115, 105, 110, 103]⟩), (7, ⟨#[70, 105, 101, 108, 100]⟩), (8, ⟨#[70, 101, 97, 116, 117, 114, 101]⟩), (10, ⟨#[67, 114, 121, 112, 116, 111]⟩), (11, ⟨#[73, 108, 108, 101, 103, 97, 108]⟩), (12, ⟨#[68, 101, 110, 105, 101, 100]⟩), (13, ⟨#[65, 114, 99, 104, 105, 118, 101, 100]⟩), (14, ⟨#[73, 110, 100, 101, 120]⟩), (256, ⟨#[71, 101, 110, 101, 114, 97, 108]⟩)]
def wordS (r : Int) : ByteArray := match wordL.find? (fun x => x.1 == r) with
  | some x => x.2
  | none => ⟨#[]⟩
def rsZ : RsIV := {}
def rpZ : RsV := {}
theorem sSize : (Tryd.prog.info? 51).map (·.size) = some 13 := by kernel_rfl
theorem sZero : (Tryd.prog.info? 51).map (·.zero) = some (some (.agg rsZ.arr)) := by kernel_rfl
theorem sInfo : (Tryd.prog.info? 51).map (fun i => (i.zero, i.size, i.bytes)) = some (some (.agg rsZ.arr), 13, 152) := by kernel_rfl
theorem pSize : (Tryd.prog.info? 25).map (·.size) = some 2 := by kernel_rfl
theorem pZero : (Tryd.prog.info? 25).map (·.zero) = some (some (.agg rpZ.arr)) := by kernel_rfl
theorem sarr_one (v : RsIV) : v.arr.all (·.oneCell') = true := by simp [RsIV.arr, Value.oneCell']
theorem parr_one (v : RsV) : v.arr.all (·.oneCell') = true := by simp [RsV.arr, Value.oneCell']
theorem xr0 (v : RqIV) : v.arr[0]? = some (.int .i64 v.op) := rfl
theorem xr1 (v : RqIV) : v.arr[1]? = some (.bool v.has) := rfl
theorem xr2 (v : RqIV) : v.arr[2]? = some (.slice v.ids.a v.ids.n v.ids.c) := rfl
theorem rpay_range (x : RsIV) : ∀ (j : Nat) v, x.pay.arr.toList[j]? = some v → x.arr[7 + j]? = some v := by
  intro j v h
  match j with
  | 0 => exact h
  | 1 => exact h
  | 2 => exact h
  | 3 => exact h
  | 4 => exact h
  | j + 5 => simp [ItV.arr] at h
theorem rLay1_any (t n : Int) (w : World) : Calls Tryd.prog 14 #[.int .i64 t, .int .i64 n] w fun e w' => e = .returned (.agg (ItV.arr { tag := t, typ := 5, int := n })) ∧ Below w.heap.size w w' := by
  generalize hbe : w.heap.size = b
  have HBE := hid hbe; clear hbe
  go_enter Tryd.func14, Tryd.ntmps14
  go_upto_region 1 with (refine wpList_alloc_obj rfl 30 rfl _ iZero ?_)
  go_simp
  have hbw : Below w.heap.size w (w.alloc (.cells itZ.arr 30)) := (Below.refl _ _).alloc (Nat.le_refl _) _
  have hb0 := block_new w (.cells itZ.arr 30)
  have hsz : (w.alloc (.cells itZ.arr 30)).heap.size = w.heap.size + 1 := by simp
  rw [HBE.out] at hbw hb0 hsz ⊢
  have HBW := hid hbw; have HB0 := hid hb0; have HSZ := hid hsz
  clear hbw hb0 hsz
  generalize w.alloc (.cells itZ.arr 30) = W at *
  go_wp2_with fail
  refine (payNumber_any t 5 n _).mono ?_
  rintro e w2 ⟨rfl, hb2⟩
  have HB2 := hid ((hb2.block _ (block_lt HB0.out)).trans HB0.out)
  have HBW2 := hid (HBW.out.trans (hb2.mono (by rw [HSZ.out]; omega)))
  have HSZ2 : Hid (b ≤ w2.heap.size) := by have := hb2.size; show b ≤ _; rw [HSZ.out] at this; omega
  clear hb2 HB0 HBW
  go_wp2_with (refine wpList_store_obj rfl 30 _ _ rfl b rfl (ItV.arr { tag := t, typ := 5, int := n }) rfl _ _ HB2.out rfl iSize (arr_one _) ?_; intro w10 hb10 hc10 hs10; have HB10 := hid hb10; have HC10 := hid hc10; clear hb10 hc10 hs10)
  refine bodyPost_ret (results_cell_row rfl _ _ b _ _ _ _ rfl HB10.out Tryd.underlying30 rfl iSize) rfl ?_
  exact ⟨rfl, HBW2.out.trans (HC10.out.below (fun k hk => by rw [List.mem_singleton.1 hk]; exact Nat.le_refl _) HSZ2.out)⟩
theorem rLay2_any (t n : Int) (w : World) : Calls Tryd.prog 16 #[.int .i64 t, .int .i64 n] w fun e w' => e = .returned (.agg (ItV.arr { tag := t, typ := 2, int := n })) ∧ Below w.heap.size w w' := by
  generalize hbe : w.heap.size = b
  have HBE := hid hbe; clear hbe
  go_enter Tryd.func16, Tryd.ntmps16
  go_upto_region 1 with (refine wpList_alloc_obj rfl 30 rfl _ iZero ?_)
  go_simp
  have hbw : Below w.heap.size w (w.alloc (.cells itZ.arr 30)) := (Below.refl _ _).alloc (Nat.le_refl _) _
  have hb0 := block_new w (.cells itZ.arr 30)
  have hsz : (w.alloc (.cells itZ.arr 30)).heap.size = w.heap.size + 1 := by simp
  rw [HBE.out] at hbw hb0 hsz ⊢
  have HBW := hid hbw; have HB0 := hid hb0; have HSZ := hid hsz
  clear hbw hb0 hsz
  generalize w.alloc (.cells itZ.arr 30) = W at *
  go_wp2_with fail
  refine (payNumber_any t 2 n _).mono ?_
  rintro e w2 ⟨rfl, hb2⟩
  have HB2 := hid ((hb2.block _ (block_lt HB0.out)).trans HB0.out)
  have HBW2 := hid (HBW.out.trans (hb2.mono (by rw [HSZ.out]; omega)))
  have HSZ2 : Hid (b ≤ w2.heap.size) := by have := hb2.size; show b ≤ _; rw [HSZ.out] at this; omega
  clear hb2 HB0 HBW
  go_wp2_with (refine wpList_store_obj rfl 30 _ _ rfl b rfl (ItV.arr { tag := t, typ := 2, int := n }) rfl _ _ HB2.out rfl iSize (arr_one _) ?_; intro w10 hb10 hc10 hs10; have HB10 := hid hb10; have HC10 := hid hc10; clear hb10 hc10 hs10)
  refine bodyPost_ret (results_cell_row rfl _ _ b _ _ _ _ rfl HB10.out Tryd.underlying30 rfl iSize) rfl ?_
  exact ⟨rfl, HBW2.out.trans (HC10.out.below (fun k hk => by rw [List.mem_singleton.1 hk]; exact Nat.le_refl _) HSZ2.out)⟩
theorem word_any (r : Int) (w : World) : Calls Tryd.prog 32 #[.int .i64 r] w fun e w' => e = .returned (.string (wordS r)) ∧ w = w' := by
  by_cases h0 : r = 0
  · subst h0
    rw [show wordS 0 = ⟨#[70, 105, 110, 101]⟩ by kernel_rfl]
    go_enter Tryd.func32, Tryd.ntmps32
    go_wp2_with fail
    go_ret
    exact ⟨rfl, rfl⟩
  by_cases h1 : r = 1
  · subst h1
    rw [show wordS 1 = ⟨#[78, 111, 116, 70, 111, 117, 110, 100]⟩ by kernel_rfl]
    go_enter Tryd.func32, Tryd.ntmps32
    go_wp2_with fail
    go_ret
    exact ⟨rfl, rfl⟩
  by_cases h2 : r = 2
  · subst h2
    rw [show wordS 2 = ⟨#[84, 111, 111, 76, 97, 114, 103, 101]⟩ by kernel_rfl]
    go_enter Tryd.func32, Tryd.ntmps32
    go_wp2_with fail
    go_ret
    exact ⟨rfl, rfl⟩
  by_cases h4 : r = 4
  · subst h4
    rw [show wordS 4 = ⟨#[73, 110, 118, 97, 108, 105, 100]⟩ by kernel_rfl]
    go_enter Tryd.func32, Tryd.ntmps32
    go_wp2_with fail
    go_ret
    exact ⟨rfl, rfl⟩
  by_cases h5 : r = 5
  · subst h5
    rw [show wordS 5 = ⟨#[85, 110, 115, 117, 112, 112, 111, 114, 116, 101, 100]⟩ by kernel_rfl]
    go_enter Tryd.func32, Tryd.ntmps32
    go_wp2_with fail
    go_ret
    exact ⟨rfl, rfl⟩
  by_cases h6 : r = 6
  · subst h6
    rw [show wordS 6 = ⟨#[77, 105, 115, 115, 105, 110, 103]⟩ by kernel_rfl]
    go_enter Tryd.func32, Tryd.ntmps32
    go_wp2_with fail
    go_ret
    exact ⟨rfl, rfl⟩
  by_cases h7 : r = 7
  · subst h7
    rw [show wordS 7 = ⟨#[70, 105, 101, 108, 100]⟩ by kernel_rfl]
    go_enter Tryd.func32, Tryd.ntmps32
    go_wp2_with fail
    go_ret
    exact ⟨rfl, rfl⟩
  by_cases h8 : r = 8
  · subst h8
    rw [show wordS 8 = ⟨#[70, 101, 97, 116, 117, 114, 101]⟩ by kernel_rfl]
    go_enter Tryd.func32, Tryd.ntmps32
    go_wp2_with fail
    go_ret
    exact ⟨rfl, rfl⟩
  by_cases h10 : r = 10
  · subst h10
    rw [show wordS 10 = ⟨#[67, 114, 121, 112, 116, 111]⟩ by kernel_rfl]
    go_enter Tryd.func32, Tryd.ntmps32
    go_wp2_with fail
    go_ret
    exact ⟨rfl, rfl⟩
  by_cases h11 : r = 11
  · subst h11
    rw [show wordS 11 = ⟨#[73, 108, 108, 101, 103, 97, 108]⟩ by kernel_rfl]
    go_enter Tryd.func32, Tryd.ntmps32
    go_wp2_with fail
    go_ret
    exact ⟨rfl, rfl⟩
  by_cases h12 : r = 12
  · subst h12
    rw [show wordS 12 = ⟨#[68, 101, 110, 105, 101, 100]⟩ by kernel_rfl]
    go_enter Tryd.func32, Tryd.ntmps32
    go_wp2_with fail
    go_ret
    exact ⟨rfl, rfl⟩
  by_cases h13 : r = 13
  · subst h13
    rw [show wordS 13 = ⟨#[65, 114, 99, 104, 105, 118, 101, 100]⟩ by kernel_rfl]
    go_enter Tryd.func32, Tryd.ntmps32
    go_wp2_with fail
    go_ret
    exact ⟨rfl, rfl⟩
  by_cases h14 : r = 14
  · subst h14
    rw [show wordS 14 = ⟨#[73, 110, 100, 101, 120]⟩ by kernel_rfl]
    go_enter Tryd.func32, Tryd.ntmps32
    go_wp2_with fail
    go_ret
    exact ⟨rfl, rfl⟩
  by_cases h256 : r = 256
  · subst h256
    rw [show wordS 256 = ⟨#[71, 101, 110, 101, 114, 97, 108]⟩ by kernel_rfl]
    go_enter Tryd.func32, Tryd.ntmps32
    go_wp2_with fail
    go_ret
    exact ⟨rfl, rfl⟩
  have e0 : (r == 0) = false := by simpa using h0
  have e1 : (r == 1) = false := by simpa using h1
  have e2 : (r == 2) = false := by simpa using h2
  have e4 : (r == 4) = false := by simpa using h4
  have e5 : (r == 5) = false := by simpa using h5
  have e6 : (r == 6) = false := by simpa using h6
  have e7 : (r == 7) = false := by simpa using h7
  have e8 : (r == 8) = false := by simpa using h8
  have e10 : (r == 10) = false := by simpa using h10
  have e11 : (r == 11) = false := by simpa using h11
  have e12 : (r == 12) = false := by simpa using h12
  have e13 : (r == 13) = false := by simpa using h13
  have e14 : (r == 14) = false := by simpa using h14
  have e256 : (r == 256) = false := by simpa using h256
  have f0 : ((0 : Int) == r) = false := by simp; omega
  have f1 : ((1 : Int) == r) = false := by simp; omega
  have f2 : ((2 : Int) == r) = false := by simp; omega
  have f4 : ((4 : Int) == r) = false := by simp; omega
  have f5 : ((5 : Int) == r) = false := by simp; omega
  have f6 : ((6 : Int) == r) = false := by simp; omega
  have f7 : ((7 : Int) == r) = false := by simp; omega
  have f8 : ((8 : Int) == r) = false := by simp; omega
  have f10 : ((10 : Int) == r) = false := by simp; omega
  have f11 : ((11 : Int) == r) = false := by simp; omega
  have f12 : ((12 : Int) == r) = false := by simp; omega
  have f13 : ((13 : Int) == r) = false := by simp; omega
  have f14 : ((14 : Int) == r) = false := by simp; omega
  have f256 : ((256 : Int) == r) = false := by simp; omega
  rw [show wordS r = ⟨#[]⟩ by unfold wordS wordL; simp only [List.find?, f0, f1, f2, f4, f5, f6, f7, f8, f10, f11, f12, f13, f14, f256]]
  clear f0 f1 f2 f4 f5 f6 f7 f8 f10 f11 f12 f13 f14 f256 h0 h1 h2 h4 h5 h6 h7 h8 h10 h11 h12 h13 h14 h256
  go_enter Tryd.func32, Tryd.ntmps32
  go_wp2_with fail
  go_ret
  exact ⟨rfl, rfl⟩
end Go.Proofs.YteenglgnakenmaaDoor
namespace Go.Proofs.YteenglgnakenmaaDoor
open Go.RowKit
set_option linter.unusedVariables false
set_option linter.unusedSimpArgs false
set_option maxRecDepth 100000
set_option maxHeartbeats 3200000
def ofP (q : RqI) (reason : Int) (pay : Itm) : RsI := if reason = 0 then { op := q.op, hasOp := true, hasId := q.has, id := q.id, pay := pay, hasPay := true } else { op := q.op, hasOp := true, hasId := q.has, id := q.id, status := 1, reason := reason, msg := wordS reason }
def undoP (q : RqI) : RsI := { op := q.op, hasOp := true, hasId := q.has, id := q.id, status := 3 }
def wholeP (t r : Int) : Rs := { time := t, items := [{ status := 1, reason := r, msg := wordS r }] }
def stEmptyB (T : TypeId) (B : Nat) : St Grow := ⟨fun v w => ∃ g, v = .slice (some ⟨g, 0, none⟩) 0 0 ∧ w.heap[g]? = some (.cells #[] T (0, 0)) ∧ B ≤ g, fun v w w' h hg => let ⟨g, e, h0, h1⟩ := h; ⟨g, e, (hg.block _ (block_lt h0)).trans h0, h1⟩⟩
def stRowB (T : TypeId) (B n : Nat) (xs : List Value) : St Grow := ⟨fun v w => ∃ a c, v = .slice a n c ∧ w.ownsRow B T 1 (.slice a n c) n xs, fun v w w' h hg => let ⟨a, c, e, h1⟩ := h; ⟨a, c, e, (Chg.of_below hg []).owns h1 (fun k _ hm => by cases hm)⟩⟩
def stRsI (T : TypeId) (B n : Nat) (xs : List Value) (f : Sl → RsIV) : St Grow := ⟨fun v w => ∃ a c, v = .agg (f ⟨a, n, c⟩).arr ∧ w.ownsRow B T 1 (.slice a n c) n xs, fun v w w' h hg => let ⟨a, c, e, h1⟩ := h; ⟨a, c, e, (Chg.of_below hg []).owns h1 (fun k _ hm => by cases hm)⟩⟩
theorem B8s_one (l : List UInt8) : ∀ u ∈ l.map B8, u.oneCell' = true := by
  intro u hu
  obtain ⟨x, _, rfl⟩ := List.mem_map.1 hu
  rfl
theorem sBuildOf (op : Int) (h : Bool) (s : Sl) (id : List UInt8) (w : World) : (Instr.build 51 #[(0, .int .i64 op), (1, .bool true), (2, .bool h), (3, .slice s.a s.n s.c)]).run Tryd.prog w = .ok (.agg (RsIV.arr { op := op, hasOp := true, hasId := h, id := id, ids := s })) w := by kernel_rfl
theorem sBuildUndo (op : Int) (h : Bool) (s : Sl) (id : List UInt8) (w : World) : (Instr.build 51 #[(0, .int .i64 op), (1, .bool true), (2, .bool h), (3, .slice s.a s.n s.c), (4, .int .i64 3)]).run Tryd.prog w = .ok (.agg (RsIV.arr { op := op, hasOp := true, hasId := h, id := id, ids := s, status := 3 })) w := by kernel_rfl
theorem sBuildWhole (r : Int) (m : ByteArray) (w : World) : (Instr.build 51 #[(4, .int .i64 1), (5, .int .i64 r), (6, .string m)]).run Tryd.prog w = .ok (.agg (RsIV.arr { status := 1, reason := r, msg := m })) w := by kernel_rfl
theorem pBuild (t : Int) (s : Sl) (l : List RsIV) (w : World) : (Instr.build 25 #[(0, .int .i64 t), (1, .slice s.a s.n s.c)]).run Tryd.prog w = .ok (.agg (RsV.arr { time := t, its := s, items := l })) w := by kernel_rfl
theorem pBuild0 (w : World) : (Instr.build 25 #[]).run Tryd.prog w = .ok (.agg rpZ.arr) w := by kernel_rfl
theorem pBuild1 (t : Int) (w : World) : (Instr.build 25 #[(0, .int .i64 t)]).run Tryd.prog w = .ok (.agg (RsV.arr { time := t })) w := by kernel_rfl
theorem wp_build_rs {P : Program} {o : Oper} {a : Act} {w : World} {K : Act → World → Prop} {Q : Exit → Act → World → Prop} (T E : TypeId) (x : Operand) (ho : o.op = .buildSlice T 1 #[(0, x)]) (v : RsIV) (hx : a.eval x = .agg v.arr)
    (i : TypeInfo) (hu : P.underlying T = some (.slice E)) (hi : P.info? E = some i) (hz : i.zero = some (.agg rsZ.arr)) (hs : i.size = 13)
    (h : K (a.put o.dst (.slice (some ⟨w.heap.size, 0, none⟩) 1 1)) (w.alloc (.cells v.arr E))) : o.wp P a w K Q := by
  refine wp_buildSlice T E 1 _ ho v.arr i _ hu hi hz (by rw [hs]; decide) (by rw [hs]; decide) ?_ h
  rw [hs, show ((#[(0, x)] : Array (Nat × Operand)).map fun (i, x) => (i, a.eval x)).toList = [(0, Value.agg v.arr)] from by simp [hx]]
  kernel_rfl
theorem wpList_build_rs {P : Program} {ops : Array Oper} {rest : List Oper} {o : Oper} {a : Act} {w : World} {Q : Exit → Act → World → Prop} (hg : o.guard = none) (T E : TypeId) (x : Operand) (ho : o.op = .buildSlice T 1 #[(0, x)]) (v : RsIV) (hx : a.eval x = .agg v.arr)
    (i : TypeInfo) (hu : P.underlying T = some (.slice E)) (hi : P.info? E = some i) (hz : i.zero = some (.agg rsZ.arr)) (hs : i.size = 13)
    (h : wpList P ops Q rest (a.put o.dst (.slice (some ⟨w.heap.size, 0, none⟩) 1 1)) (w.alloc (.cells v.arr E))) : wpList P ops Q (o :: rest) a w :=
  wpList_plain hg fun _ hK => wp_build_rs T E x ho v hx i hu hi hz hs (hK _ _ h)
theorem there_of {w : World} {b o n : Nat} {C : Array Value} {T : TypeId} (h : w.heap[b]? = some (.cells C T (0, 0))) (hn : o + n ≤ C.size) : w.there b o n := fun j hj => by
  refine ⟨?_, frozen_of_block h⟩
  rw [cell_of_block h (Array.getElem?_eq_getElem (by omega))]; rfl
/-- A struct stored within a block: the world behind it kept shut. -/
theorem wpList_store_part {P : Program} {w : World} {ops : Array Oper} {rest : List Oper} {op : Oper} {a : Act} {Q : Exit → Act → World → Prop} (hgd : op.guard = none) (ty : TypeId) (x y : Operand) (ho : op.op = .store ty x y)
    (p o : Nat) (cells : Array Value) (hx : a.eval x = .pointer (some ⟨p, o, none⟩)) (hy : a.eval y = .agg cells) {C : Array Value} {T : TypeId} (hg : w.heap[p]? = some (.cells C T (0, 0))) (hroom : o + cells.size ≤ C.size)
    (hi : (P.info? ty).map (·.size) = some cells.size) (h1 : cells.all (·.oneCell') = true) (C' : Array Value) (hC : setSeg C o cells.toList = C')
    (h : ∀ w', w'.heap[p]? = some (.cells C' T (0, 0)) → Chg [p] w w' → wpList P ops Q rest (a.put op.dst undef) w') : wpList P ops Q (op :: rest) a w :=
  wpList_store_mid hgd ty x y ho p o cells hx hy (there_of hg hroom) hi h1 (h _ (by rw [← hC]; exact setCells_block _ _ _ _ hg) (setCells_chg _ _ _ (Chg.refl _ _) (.inl (by simp))))
end Go.Proofs.YteenglgnakenmaaDoor
namespace Go.Proofs.YteenglgnakenmaaDoor
open Go.RowKit
set_option linter.unusedVariables false
set_option linter.unusedSimpArgs false
set_option maxRecDepth 100000
set_option maxHeartbeats 3200000
theorem Whole_any (t r : Int) (w : World) : Calls Tryd.prog 31 #[.int .i64 t, .int .i64 r] w fun e w' => ∃ v : RsV, e = .returned (.agg v.arr) ∧ v.rq = wholeP t r ∧ v.ok w' ∧ v.its.n = 1 ∧ Below w.heap.size w w' := by
  obtain ⟨iq, hiq, hy0, hy1, hy2⟩ := info_parts sInfo
  generalize hbe : w.heap.size = b
  have HBE := hid hbe; clear hbe
  go_enter Tryd.func31, Tryd.ntmps31
  go_upto_region 1 with (refine wpList_alloc_obj rfl 25 rfl _ pZero ?_)
  go_simp
  have hbw : Below w.heap.size w (w.alloc (.cells rpZ.arr 25)) := (Below.refl _ _).alloc (Nat.le_refl _) _
  have hb0 := block_new w (.cells rpZ.arr 25)
  have hsz : (w.alloc (.cells rpZ.arr 25)).heap.size = w.heap.size + 1 := by simp
  rw [HBE.out] at hbw hb0 hsz ⊢
  have HBW := hid hbw; have HB0 := hid hb0; have HSZ := hid hsz
  clear hbw hb0 hsz
  generalize w.alloc (.cells rpZ.arr 25) = W at *
  go_wp2_with fail
  refine (word_any r _).mono ?_
  rintro e w2 ⟨rfl, rfl⟩
  obtain ⟨m, hm⟩ : ∃ m, wordS r = m := ⟨_, rfl⟩
  rw [hm]
  have HM := hid hm
  clear hm
  have HB1 : Hid ((W.alloc (.cells (RsIV.arr { status := 1, reason := r, msg := m }) 51)).heap[b]? = some (.cells rpZ.arr 25 (0, 0))) := by show _ = _; rw [heap_alloc_old _ _ (block_lt HB0.out)]; exact HB0.out
  go_wp2_with (first | (refine wpList_build_obj rfl 51 _ rfl #[(4, .int .i64 1), (5, .int .i64 r), (6, .string m)] rfl _ (sBuildWhole r m _) ?_) | (refine wpList_build_rs rfl 23 51 _ rfl { status := 1, reason := r, msg := m } rfl iq Tryd.underlying23 hiq hy0 hy1 ?_) | (refine wpList_build_obj rfl 25 _ rfl #[(0, .int .i64 t), (1, .slice (some ⟨W.heap.size, 0, none⟩) 1 1)] rfl _ (pBuild t ⟨some ⟨W.heap.size, 0, none⟩, 1, 1⟩ [{ status := 1, reason := r, msg := m }] _) ?_) | (refine wpList_store_obj rfl 25 _ _ rfl b rfl (RsV.arr { time := t, its := ⟨some ⟨W.heap.size, 0, none⟩, 1, 1⟩, items := [{ status := 1, reason := r, msg := m }] }) rfl _ _ HB1.out rfl pSize (parr_one _) ?_; intro w10 hb10 hc10 hs10; have HB10 := hid hb10; have HC10 := hid hc10; clear hb10 hc10 hs10))
  refine bodyPost_ret (results_cell_row rfl _ _ b _ _ _ _ rfl HB10.out Tryd.underlying25 rfl pSize) rfl ?_
  have ho : (W.alloc (.cells (RsIV.arr { status := 1, reason := r, msg := m }) 51)).ownsRow b 51 13 (.slice (some ⟨W.heap.size, 0, none⟩) 1 1) 1 (rsCells [{ status := 1, reason := r, msg := m }]) := by
    have h := own_built (w := W) (T := 51) (base := b) (size := 13) (n := 1) (C := RsIV.arr { status := 1, reason := r, msg := m }) (by rw [HSZ.out]; omega) rfl (by decide)
    simpa [rsCells, RsIV.cells] using h
  have ho10 := HC10.out.owns ho (fun k hk hm => by simp [Value.ownBlock] at hk; have := List.mem_singleton.1 hm; have := HSZ.out; omega)
  refine ⟨{ time := t, its := ⟨some ⟨W.heap.size, 0, none⟩, 1, 1⟩, items := [{ status := 1, reason := r, msg := m }] }, rfl, ?_, ⟨SlR.of_own ho10 (show (1 : Nat) ≤ 1099511627776 by decide), fun x hx => by rw [List.mem_singleton.1 hx]; exact ⟨SlC.nil _, ItV.ok.zero _ _ _ _⟩⟩, rfl, ?_⟩
  · unfold wholeP RsV.rq
    rw [HM.out]
    simp only [List.map_cons, List.map_nil]
    unfold RsIV.rq
    rw [show ItV.it {} = {} from it_flat 0 0 0 [] {}]
  · exact (HBW.out.alloc (by rw [HSZ.out]; omega) _).trans (HC10.out.below (fun k hk => by rw [List.mem_singleton.1 hk]; exact Nat.le_refl _) (by simp; rw [HSZ.out]; omega))
end Go.Proofs.YteenglgnakenmaaDoor
