/- Responses (resps.Response, resps.Item) as data, and in memory; the plain law. -/
import Derived.Test.YtfcobmncbnkppaaParse
namespace Go.Proofs.Ytfcobmncbnkppaa
open Go.RowKit
set_option linter.unusedVariables false
set_option linter.unusedSimpArgs false
/-- An item of an answer, as data. -/
structure RsI where
  op : Int := 0
  hasOp : Bool := false
  hasId : Bool := false
  id : List UInt8 := []
  status : Int := 0
  reason : Int := 0
  msg : ByteArray := ⟨#[]⟩
  pay : Itm := {}
  hasPay : Bool := false
structure Rs where
  time : Int := 0
  items : List RsI := []
structure RsIV where
  op : Int := 0
  hasOp : Bool := false
  hasId : Bool := false
  id : List UInt8 := []
  ids : Sl := {}
  status : Int := 0
  reason : Int := 0
  msg : ByteArray := ⟨#[]⟩
  pay : ItV := {}
  hasPay : Bool := false
structure RsV where
  time : Int := 0
  its : Sl := {}
  items : List RsIV := []
instance : Inhabited RsI := ⟨{}⟩
instance : Inhabited RsIV := ⟨{}⟩
def RsIV.arr (x : RsIV) : Array Value := #[.int .i64 x.op, .bool x.hasOp, .bool x.hasId, .slice x.ids.a x.ids.n x.ids.c, .int .i64 x.status, .int .i64 x.reason, .string x.msg, .int .i64 x.pay.tag, .int .i64 x.pay.typ, .int .i64 x.pay.int, .slice x.pay.ds.a x.pay.ds.n x.pay.ds.c, .slice x.pay.ks.a x.pay.ks.n x.pay.ks.c, .bool x.hasPay]
def RsIV.cells (x : RsIV) : List Value := x.arr.toList
def RsV.arr (q : RsV) : Array Value := #[.int .i64 q.time, .slice q.its.a q.its.n q.its.c]
theorem rv0 (v : RsV) : v.arr[0]? = some (.int .i64 v.time) := rfl
theorem rv1 (v : RsV) : v.arr[1]? = some (.slice v.its.a v.its.n v.its.c) := rfl
theorem rx0 (v : RsIV) : v.arr[0]? = some (.int .i64 v.op) := rfl
theorem rx1 (v : RsIV) : v.arr[1]? = some (.bool v.hasOp) := rfl
theorem rx2 (v : RsIV) : v.arr[2]? = some (.bool v.hasId) := rfl
theorem rx3 (v : RsIV) : v.arr[3]? = some (.slice v.ids.a v.ids.n v.ids.c) := rfl
theorem rx4 (v : RsIV) : v.arr[4]? = some (.int .i64 v.status) := rfl
theorem rx5 (v : RsIV) : v.arr[5]? = some (.int .i64 v.reason) := rfl
theorem rx6 (v : RsIV) : v.arr[6]? = some (.string v.msg) := rfl
theorem rx7 (v : RsIV) : v.arr[7]? = some (.int .i64 v.pay.tag) := rfl
theorem rx12 (v : RsIV) : v.arr[12]? = some (.bool v.hasPay) := rfl
def rsCells (l : List RsIV) : List Value := l.flatMap RsIV.cells
def RsIV.rq (x : RsIV) : RsI := { op := x.op, hasOp := x.hasOp, hasId := x.hasId, id := x.id, status := x.status, reason := x.reason, msg := x.msg, pay := x.pay.it, hasPay := x.hasPay }
def RsV.rq (q : RsV) : Rs := { time := q.time, items := q.items.map RsIV.rq }
structure RsIV.ok (w : World) (x : RsIV) : Prop where
  ids : SlC w x.ids (x.id.map B8)
  pay : x.pay.ok w
def RsIV.foot (x : RsIV) : List Nat := x.ids.blk ++ x.pay.foot
structure RsV.ok (w : World) (q : RsV) : Prop where
  its : SlR w q.its 13 (rsCells q.items)
  each : ∀ x ∈ q.items, x.ok w
theorem RsIV.ok.lt {w : World} {x : RsIV} (h : x.ok w) : ∀ k ∈ x.foot, k < w.heap.size := fun k hk => by
  rcases List.mem_append.1 hk with h' | h'
  · exact h.ids.lt k h'
  · exact h.pay.lt k h'
theorem RsIV.ok.keep {w w' : World} {G : List Nat} (hc : Chg G w w') {x : RsIV} (h : x.ok w) (hd : Disj x.foot G) : x.ok w' :=
  ⟨h.ids.keep hc (fun k hk => hd k (List.mem_append_left _ hk)), ItV.ok.keep hc h.pay (fun k hk => hd k (List.mem_append_right _ hk))⟩
theorem RsIV.ok.below {w w' : World} {x : RsIV} (h : x.ok w) (hb : Below w.heap.size w w') : x.ok w' :=
  RsIV.ok.keep (Chg.of_below hb []) h (fun _ _ hm => by cases hm)
theorem RsV.ok.below {w w' : World} {q : RsV} (h : q.ok w) (hb : Below w.heap.size w w') : q.ok w' := ⟨h.its.below hb, fun x hx => (h.each x hx).below hb⟩
theorem rs_len (l : List RsIV) : (rsCells l).length = l.length * 13 := by
  induction l with
  | nil => rfl
  | cons v r ih => simp only [rsCells, List.flatMap_cons, List.length_append, List.length_cons]; have : v.cells.length = 13 := rfl; rw [this]; unfold rsCells at ih; rw [ih]; omega
theorem rs_app (l r : List RsIV) : rsCells (l ++ r) = rsCells l ++ rsCells r := by unfold rsCells; rw [List.flatMap_append]
theorem rs_one (l : List RsIV) : ∀ u ∈ rsCells l, u.oneCell' = true := by
  intro u hu
  obtain ⟨x, _, hx⟩ := List.mem_flatMap.1 hu
  simp [RsIV.cells, RsIV.arr] at hx
  rcases hx with rfl | rfl | rfl | rfl | rfl | rfl | rfl | rfl | rfl | rfl | rfl | rfl | rfl <;> rfl
theorem rs_get (l : List RsIV) : ∀ (k j : Nat) (v : RsIV), l[k]? = some v → j < 13 → (rsCells l)[k * 13 + j]? = v.cells[j]? := by
  induction l with
  | nil => intro k j v h; simp at h
  | cons x r ih =>
    intro k j v h hj
    have e : rsCells (x :: r) = x.cells ++ rsCells r := rfl
    have hl : x.cells.length = 13 := rfl
    cases k with
    | zero =>
      simp at h; subst h
      rw [e, List.getElem?_append_left (by omega)]
      simp
    | succ k =>
      rw [e, List.getElem?_append_right (by omega), ← ih k j v (by simpa using h) hj]
      congr 1; omega
theorem SlR.rslen {w : World} {s : Sl} {l : List RsIV} (h : SlR w s 13 (rsCells l)) : l.length = s.n := by
  have := h.rd.len; rw [rs_len] at this; omega
/-- The k-th item of a batch, whole. -/
theorem SlR.rsrow {w : World} {s : Sl} {l : List RsIV} (h : SlR w s 13 (rsCells l)) {k : Nat} (hk : k < s.n) :
    ∃ b off v, s.a = some ⟨b, off, none⟩ ∧ l[k]? = some v ∧ w.rangeAt b (off + k * 13) v.cells := by
  have hl := h.rslen
  obtain ⟨b, off, ha, hc⟩ := h.rd.cell 0 (by omega)
  have hv : l[k]? = some (l[k]'(by omega)) := List.getElem?_eq_getElem _
  refine ⟨b, off, l[k]'(by omega), ha, hv, fun j u hu => ?_⟩
  have hj : j < 13 := (List.getElem?_eq_some_iff.1 hu).1
  rw [Nat.add_assoc]
  exact hc (k * 13 + j) u ((rs_get l k j _ hv hj).trans hu)
/-- A row of items of a batch, of the call's own. -/
structure OwnRs (T : TypeId) (w : World) (base : Nat) (s : Sl) (l : List RsIV) : Prop where
  own : w.ownsRow base T 13 (.slice s.a s.n s.c) s.n (rsCells l)
  ok : ∀ x ∈ l, x.ok w
  apart : ∀ x ∈ l, ∀ k ∈ x.foot, s.v.ownBlock ≠ some k
section
variable {T : TypeId} {w w' : World} {base : Nat} {s : Sl} {l : List RsIV}
theorem OwnRs.nil (T : TypeId) (w : World) (base : Nat) : OwnRs T w base {} [] := ⟨World.ownsRow_nil w base T 13, by simp, by simp⟩
theorem OwnRs.chg (h : OwnRs T w base s l) {G : List Nat} (hc : Chg G w w') (hb : ∀ k, s.v.ownBlock = some k → k ∉ G) (hd : ∀ x ∈ l, Disj x.foot G) : OwnRs T w' base s l :=
  ⟨hc.owns h.own hb, fun x hx => RsIV.ok.keep hc (h.ok x hx) (hd x hx), h.apart⟩
theorem OwnRs.below (h : OwnRs T w base s l) (hb : Below w.heap.size w w') : OwnRs T w' base s l :=
  h.chg (Chg.of_below hb []) (fun k _ hm => by cases hm) (fun x _ k _ hm => by cases hm)
theorem OwnRs.len (h : OwnRs T w base s l) : l.length = s.n := by have := h.own.1; rw [rs_len] at this; omega
theorem OwnRs.sl (h : OwnRs T w base s l) (hn : s.n ≤ 1099511627776) : SlR w s 13 (rsCells l) := SlR.of_own h.own hn
theorem OwnRs.ahead (h : OwnRs T w base s l) {k : Nat} (hk : k < base) : k ∉ s.v.ownBlock.toList := fun hm => by
  have hk' : s.v.ownBlock = some k := by cases hv : s.v.ownBlock with
    | none => rw [hv] at hm; cases hm
    | some y => rw [hv] at hm; simp at hm; rw [hm]
  have := (h.own.lt k hk').1
  omega
theorem OwnRs.app {W : World} (h : OwnRs T w base s l) (hW : Below w.heap.size w W) (y : RsIV) (hy : y.ok w) (hap : ∀ k ∈ y.foot, s.v.ownBlock ≠ some k) {a : Option Addr} {n c : Nat}
    (ho : w'.ownsRow base T 13 (.slice a n c) n (rsCells (l ++ [y]))) (hg : W.grownBy w' s.v.ownBlock) (hf : (Value.slice a n c).ownBlock = s.v.ownBlock ∨ ∀ k, (Value.slice a n c).ownBlock = some k → W.heap.size ≤ k) : OwnRs T w' base ⟨a, n, c⟩ (l ++ [y]) := by
  have hc : Chg s.v.ownBlock.toList w w' := (Chg.of_below hW _).grown hg (fun k hk => .inl (by rw [hk]; simp))
  have hdis : ∀ x : RsIV, (∀ k ∈ x.foot, s.v.ownBlock ≠ some k) → Disj x.foot s.v.ownBlock.toList := fun x hx k hk hm => by
    cases hv : s.v.ownBlock with
    | none => rw [hv] at hm; cases hm
    | some z => rw [hv] at hm; simp at hm; subst hm; exact hx k hk hv
  have key : ∀ x ∈ l ++ [y], x.ok w ∧ (∀ k ∈ x.foot, s.v.ownBlock ≠ some k) := by
    intro x hx
    rcases List.mem_append.1 hx with h' | h'
    · exact ⟨h.ok x h', h.apart x h'⟩
    · rw [List.mem_singleton.1 h']; exact ⟨hy, hap⟩
  refine ⟨ho, fun x hx => RsIV.ok.keep hc (key x hx).1 (hdis x (key x hx).2), fun x hx k hk => ?_⟩
  rcases hf with h' | h'
  · rw [show Sl.v ⟨a, n, c⟩ = Value.slice a n c from rfl, h']; exact (key x hx).2 k hk
  · intro he
    have h1 := h' k he
    have h2 := (key x hx).1.lt k hk
    have h3 := hW.size
    omega
end

/- The plain law: what is read and laid. -/
def rItemF : List Fld := [maybeF 4325468 5, maybeF 4325523 8, needF 4325503 5, maybeF 4325502 5, maybeF 4325501 7, maybeF 4325500 1]
def rMsgF : List Fld := [needF 4325498 1, manyF 4325391 1]
def rHeadF : List Fld := [needF 4325481 1, needF 4325522 9, needF 4325389 2]
def rVerF : List Fld := [needF 4325482 2, needF 4325483 2]
def readRsI (i : Itm) : Except Int RsI :=
  match parseV rItemF i with
  | .error c => .error c
  | .ok r => .ok { op := numV (r.getD 0 []) 0, hasOp := !(r.getD 0 []).isEmpty, hasId := !(r.getD 1 []).isEmpty, id := (firstI (r.getD 1 [])).data, status := numV (r.getD 2 []) 0, reason := numV (r.getD 3 []) 0, msg := ⟨(firstI (r.getD 4 [])).data.toArray⟩, pay := firstI (r.getD 5 []), hasPay := !(r.getD 5 []).isEmpty }
def readRsIs : List Itm → Except Int (List RsI)
  | [] => .ok []
  | i :: r => match readRsI i with
    | .error c => .error c
    | .ok x => match readRsIs r with
      | .error c => .error c
      | .ok l => .ok (x :: l)
def readRs (i : Itm) : Except Int Rs :=
  if i.tag ≠ 4325499 then .error 4 else
  match parseV rMsgF i with
  | .error c => .error c
  | .ok m => match parseV rHeadF (firstI (m.getD 0 [])) with
    | .error c => .error c
    | .ok h => match parseV rVerF (firstI (h.getD 0 [])) with
      | .error c => .error c
      | .ok v => match readRsIs (m.getD 1 []) with
        | .error c => .error c
        | .ok l => if numV (v.getD 0 []) 0 != 1 || numV (v.getD 1 []) 0 != 4 || numV (h.getD 2 []) 0 != (l.length : Int) then .error 4 else .ok { time := (firstI (h.getD 1 [])).int, items := l }
def rsKids (x : RsI) : List Itm := (if x.hasOp then [numI 4325468 5 x.op] else []) ++ (if x.hasId then [{ tag := 4325523, typ := 8, data := x.id }] else []) ++ [numI 4325503 5 x.status] ++ (if x.reason ≠ 0 then [numI 4325502 5 x.reason] else []) ++ (if x.msg.toList ≠ [] then [{ tag := 4325501, typ := 7, data := x.msg.data.toList }] else [])
def layRsI (x : RsI) : Itm := ofI 4325391 (rsKids x ++ (if x.hasPay then [x.pay] else []))
def layRsHead (time n : Int) : Itm := ofI 4325498 [ofI 4325481 [numI 4325482 2 1, numI 4325483 2 4], numI 4325522 9 time, numI 4325389 2 n]
def layRs (q : Rs) : Itm := ofI 4325499 (layRsHead q.time q.items.length :: q.items.map layRsI)
theorem rows6 {r : List (List Itm)} (h : r.length = 6) : ∃ a b c d e f, r = [a, b, c, d, e, f] := by
  match r, h with
  | [a, b, c, d, e, f], _ => exact ⟨a, b, c, d, e, f, rfl⟩
end Go.Proofs.Ytfcobmncbnkppaa
