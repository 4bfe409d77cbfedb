/- Requests (reqs.Request, reqs.Item) as data, and in memory. -/
import Derived.Test.YtbnbofooofedkaaDoorParse
namespace Go.Proofs.YtbnbofooofedkaaDoor
open Go.RowKit
set_option linter.unusedVariables false
set_option linter.unusedSimpArgs false

/-- An item of a batch, as data. -/
structure RqI where
 op : Int := 0
 has : Bool := false
 id : List UInt8 := []
 pay : Itm := {}
/-- A request, as data. -/
structure Rq where
 major : Int := 0
 minor : Int := 0
 max : Int := 0
 opt : Int := 0
 items : List RqI := []
/-- An item of a batch with the places of its slices. -/
structure RqIV where
 op : Int := 0
 has : Bool := false
 id : List UInt8 := []
 ids : Sl := {}
 pay : ItV := {}
structure RqV where
 major : Int := 0
 minor : Int := 0
 max : Int := 0
 opt : Int := 0
 its : Sl := {}
 items : List RqIV := []
instance : Inhabited RqI := ⟨{}⟩
instance : Inhabited RqIV := ⟨{}⟩
def RqIV.arr (x : RqIV) : Array Value := #[.int .i64 x.op, .bool x.has, .slice x.ids.a x.ids.n x.ids.c, .int .i64 x.pay.tag, .int .i64 x.pay.typ, .int .i64 x.pay.int, .slice x.pay.ds.a x.pay.ds.n x.pay.ds.c, .slice x.pay.ks.a x.pay.ks.n x.pay.ks.c]
def RqIV.cells (x : RqIV) : List Value := x.arr.toList
def RqV.arr (q : RqV) : Array Value := #[.int .i64 q.major, .int .i64 q.minor, .int .i64 q.max, .int .i64 q.opt, .slice q.its.a q.its.n q.its.c]
theorem qr0 (v : RqV) : v.arr[0]? = some (.int .i64 v.major) := rfl
theorem qr1 (v : RqV) : v.arr[1]? = some (.int .i64 v.minor) := rfl
theorem qr2 (v : RqV) : v.arr[2]? = some (.int .i64 v.max) := rfl
theorem qr3 (v : RqV) : v.arr[3]? = some (.int .i64 v.opt) := rfl
theorem qr4 (v : RqV) : v.arr[4]? = some (.slice v.its.a v.its.n v.its.c) := rfl
def rqCells (l : List RqIV) : List Value := l.flatMap RqIV.cells
def RqIV.rq (x : RqIV) : RqI := { op := x.op, has := x.has, id := x.id, pay := x.pay.it }
def RqV.rq (q : RqV) : Rq := { major := q.major, minor := q.minor, max := q.max, opt := q.opt, items := q.items.map RqIV.rq }
structure RqIV.ok (w : World) (x : RqIV) : Prop where
 ids : SlC w x.ids (x.id.map B8)
 pay : x.pay.ok w
def RqIV.foot (x : RqIV) : List Nat := x.ids.blk ++ x.pay.foot
structure RqV.ok (w : World) (q : RqV) : Prop where
 its : SlR w q.its 8 (rqCells q.items)
 each : ∀ x ∈ q.items, x.ok w
theorem RqIV.ok.lt {w : World} {x : RqIV} (h : x.ok w) : ∀ k ∈ x.foot, k < w.heap.size := fun k hk => by
 rcases List.mem_append.1 hk with h' | h'
 ·exact h.ids.lt k h'
 ·exact h.pay.lt k h'
theorem RqIV.ok.keep {w w' : World} {G : List Nat} (hc : Chg G w w') {x : RqIV} (h : x.ok w) (hd : Disj x.foot G) : x.ok w' :=
 ⟨h.ids.keep hc (fun k hk => hd k (List.mem_append_left _ hk)), ItV.ok.keep hc h.pay (fun k hk => hd k (List.mem_append_right _ hk))⟩
theorem RqIV.ok.below {w w' : World} {x : RqIV} (h : x.ok w) (hb : Below w.heap.size w w') : x.ok w' :=
 RqIV.ok.keep (Chg.of_below hb []) h (fun _ _ hm => by cases hm)
theorem RqV.ok.below {w w' : World} {q : RqV} (h : q.ok w) (hb : Below w.heap.size w w') : q.ok w' := ⟨h.its.below hb, fun x hx => (h.each x hx).below hb⟩
theorem rq_len (l : List RqIV) : (rqCells l).length = l.length * 8 := by
 induction l with
 | nil => rfl
 | cons v r ih => simp only [rqCells, List.flatMap_cons, List.length_append, List.length_cons]; have : v.cells.length = 8 := rfl; rw [this]; unfold rqCells at ih; rw [ih]; omega
theorem rq_app (l r : List RqIV) : rqCells (l ++ r) = rqCells l ++ rqCells r := by unfold rqCells; rw [List.flatMap_append]
theorem rq_one (l : List RqIV) : ∀ u ∈ rqCells l, u.oneCell' = true := by
 intro u hu
 obtain ⟨x, _, hx⟩ := List.mem_flatMap.1 hu
 simp [RqIV.cells, RqIV.arr] at hx
 rcases hx with rfl | rfl | rfl | rfl | rfl | rfl | rfl | rfl <;> rfl
theorem rq_get (l : List RqIV) : ∀ (k j : Nat) (v : RqIV), l[k]? = some v → j < 8 → (rqCells l)[k * 8 + j]? = v.cells[j]? := by
 induction l with
 | nil => intro k j v h; simp at h
 | cons x r ih =>
  intro k j v h hj
  have e : rqCells (x :: r) = x.cells ++ rqCells r := rfl
  have hl : x.cells.length = 8 := rfl
  cases k with
  | zero =>
   simp at h; subst h
   rw [e, List.getElem?_append_left (by omega)]
   simp
  | succ k =>
   rw [e, List.getElem?_append_right (by omega), ← ih k j v (by simpa using h) hj]
   congr 1; omega
theorem SlR.qlen {w : World} {s : Sl} {l : List RqIV} (h : SlR w s 8 (rqCells l)) : l.length = s.n := by
 have := h.rd.len; rw [rq_len] at this; omega
/-- The k-th item of a batch, whole. -/
theorem SlR.rqrow {w : World} {s : Sl} {l : List RqIV} (h : SlR w s 8 (rqCells l)) {k : Nat} (hk : k < s.n) :
  ∃ b off v, s.a = some ⟨b, off, none⟩ ∧ l[k]? = some v ∧ w.rangeAt b (off + k * 8) v.cells := by
 have hl := h.qlen
 obtain ⟨b, off, ha, hc⟩ := h.rd.cell 0 (by omega)
 have hv : l[k]? = some (l[k]'(by omega)) := List.getElem?_eq_getElem _
 refine ⟨b, off, l[k]'(by omega), ha, hv, fun j u hu => ?_⟩
 have hj : j < 8 := (List.getElem?_eq_some_iff.1 hu).1
 rw [Nat.add_assoc]
 exact hc (k * 8 + j) u ((rq_get l k j _ hv hj).trans hu)
/-- A row of items of a batch, of the call's own. -/
structure OwnRq (T : TypeId) (w : World) (base : Nat) (s : Sl) (l : List RqIV) : Prop where
 own : w.ownsRow base T 8 (.slice s.a s.n s.c) s.n (rqCells l)
 ok : ∀ x ∈ l, x.ok w
 apart : ∀ x ∈ l, ∀ k ∈ x.foot, s.v.ownBlock ≠ some k
section
variable {T : TypeId} {w w' : World} {base : Nat} {s : Sl} {l : List RqIV}
theorem OwnRq.nil (T : TypeId) (w : World) (base : Nat) : OwnRq T w base {} [] := ⟨World.ownsRow_nil w base T 8, by simp, by simp⟩
theorem OwnRq.chg (h : OwnRq T w base s l) {G : List Nat} (hc : Chg G w w') (hb : ∀ k, s.v.ownBlock = some k → k ∉ G) (hd : ∀ x ∈ l, Disj x.foot G) : OwnRq T w' base s l :=
 ⟨hc.owns h.own hb, fun x hx => RqIV.ok.keep hc (h.ok x hx) (hd x hx), h.apart⟩
theorem OwnRq.below (h : OwnRq T w base s l) (hb : Below w.heap.size w w') : OwnRq T w' base s l :=
 h.chg (Chg.of_below hb []) (fun k _ hm => by cases hm) (fun x _ k _ hm => by cases hm)
theorem OwnRq.len (h : OwnRq T w base s l) : l.length = s.n := by have := h.own.1; rw [rq_len] at this; omega
theorem OwnRq.sl (h : OwnRq T w base s l) (hn : s.n ≤ 1099511627776) : SlR w s 8 (rqCells l) := SlR.of_own h.own hn
theorem OwnRq.ahead (h : OwnRq T w base s l) {k : Nat} (hk : k < base) : k ∉ s.v.ownBlock.toList := fun hm => by
 have hk' : s.v.ownBlock = some k := by cases hv : s.v.ownBlock with
  | none => rw [hv] at hm; cases hm
  | some y => rw [hv] at hm; simp at hm; rw [hm]
 have := (h.own.lt k hk').1
 omega
theorem OwnRq.app {W : World} (h : OwnRq T w base s l) (hW : Below w.heap.size w W) (y : RqIV) (hy : y.ok w) (hap : ∀ k ∈ y.foot, s.v.ownBlock ≠ some k) {a : Option Addr} {n c : Nat}
  (ho : w'.ownsRow base T 8 (.slice a n c) n (rqCells (l ++ [y]))) (hg : W.grownBy w' s.v.ownBlock) (hf : (Value.slice a n c).ownBlock = s.v.ownBlock ∨ ∀ k, (Value.slice a n c).ownBlock = some k → W.heap.size ≤ k) : OwnRq T w' base ⟨a, n, c⟩ (l ++ [y]) := by
 have hc : Chg s.v.ownBlock.toList w w' := (Chg.of_below hW _).grown hg (fun k hk => .inl (by rw [hk]; simp))
 have hdis : ∀ x : RqIV, (∀ k ∈ x.foot, s.v.ownBlock ≠ some k) → Disj x.foot s.v.ownBlock.toList := fun x hx k hk hm => by
  cases hv : s.v.ownBlock with
  | none => rw [hv] at hm; cases hm
  | some z => rw [hv] at hm; simp at hm; subst hm; exact hx k hk hv
 have key : ∀ x ∈ l ++ [y], x.ok w ∧ (∀ k ∈ x.foot, s.v.ownBlock ≠ some k) := by
  intro x hx
  rcases List.mem_append.1 hx with h' | h'
  ·exact ⟨h.ok x h', h.apart x h'⟩
  ·rw [List.mem_singleton.1 h']; exact ⟨hy, hap⟩
 refine ⟨ho, fun x hx => RqIV.ok.keep hc (key x hx).1 (hdis x (key x hx).2), fun x hx k hk => ?_⟩
 rcases hf with h' | h'
 ·rw [show Sl.v ⟨a, n, c⟩ = Value.slice a n c from rfl, h']; exact (key x hx).2 k hk
 ·intro he
  have h1 := h' k he
  have h2 := (key x hx).1.lt k hk
  have h3 := hW.size
  omega
end

/- The plain law: what is read and laid. -/
def itemF : List Fld := [needF 4325468 5, maybeF 4325523 8, needF 4325497 1]
def msgF : List Fld := [needF 4325495 1, manyF 4325391 1]
def headF : List Fld := [needF 4325481 1, maybeF 4325456 2, maybeF 4325390 5, maybeF 4325392 6, needF 4325389 2]
def verF : List Fld := [needF 4325482 2, needF 4325483 2]
def readItem (i : Itm) : Except Int RqI :=
 match parseV itemF i with
 | .error c => .error c
 | .ok r => .ok { op := numV (r.getD 0 []) 0, has := !(r.getD 1 []).isEmpty, id := (firstI (r.getD 1 [])).data, pay := firstI (r.getD 2 []) }
def numOk (n : Int) : Bool := decide (0 ≤ n) && decide (n ≤ 2147483647)
def rightI (x : RqI) : Bool := decide (0 ≤ x.op) && decide (x.op ≤ 4294967295) && (x.has || x.id.isEmpty) && x.pay.tag == 4325497 && x.pay.typ == 1 && x.pay.int == 0 && x.pay.data.isEmpty
def batchV (l : List RqI) : Bool := l.all (fun x => decide (l.length ≤ 1) || x.has) && decide (1 ≤ l.length) && decide (l.length ≤ 20)
def rightV (q : Rq) : Bool := numOk q.major && numOk q.minor && numOk q.max && q.items.all rightI && decide (1 ≤ q.opt) && decide (q.opt ≤ 3) && batchV q.items
def readItems : List Itm → Except Int (List RqI)
 | [] => .ok []
 | i :: r => match readItem i with
  | .error c => .error c
  | .ok x => match readItems r with
   | .error c => .error c
   | .ok l => .ok (x :: l)
def readV (i : Itm) : Except Int Rq :=
 if i.tag ≠ 4325496 then .error 4 else
 match parseV msgF i with
 | .error c => .error c
 | .ok m => match parseV headF (firstI (m.getD 0 [])) with
  | .error c => .error c
  | .ok h => match parseV verF (firstI (h.getD 0 [])) with
   | .error c => .error c
   | .ok v => match readItems (m.getD 1 []) with
    | .error c => .error c
    | .ok l =>
     let q : Rq := { major := numV (v.getD 0 []) 0, minor := numV (v.getD 1 []) 0, max := numV (h.getD 1 []) 0, opt := numV (h.getD 2 []) 2, items := l }
     if (!(h.getD 1 []).isEmpty && decide (q.max < 1)) || numV (h.getD 4 []) 0 != (l.length : Int) || !rightV q then .error 4 else .ok q
def layItem (x : RqI) : Itm := ofI 4325391 ([numI 4325468 5 x.op] ++ (if x.has then [{ tag := 4325523, typ := 8, data := x.id }] else []) ++ [x.pay])
def layHead (q : Rq) : Itm := ofI 4325495 ([ofI 4325481 [numI 4325482 2 q.major, numI 4325483 2 q.minor]] ++ (if q.max ≠ 0 then [numI 4325456 2 q.max] else []) ++ [numI 4325390 5 q.opt, numI 4325389 2 q.items.length])
def layV (q : Rq) : Itm := ofI 4325496 (layHead q :: q.items.map layItem)
end Go.Proofs.YtbnbofooofedkaaDoor
