/- Arguments: rows of Asks. locksmithhand.Request. -/
import Derived.Test.YtbnbofooofedkaaDoorRawOpen
import Derived.Test.YtbnbofooofedkaaDoorMb
import Derived.Test.YtbnbofooofedkaaDoorMPay
import Derived.Test.YtbnbofooofedkaaDoorReq4
import Derived.Test.YtbnbofooofedkaaDoorReq5
namespace Go.Proofs.YtbnbofooofedkaaDoor
section
open Go.ChangeShapes Go.WideShapes Go.ChangeAt Go.RowKit
set_option linter.unusedVariables false
set_option linter.unusedSimpArgs false
set_option maxRecDepth 100000
set_option maxHeartbeats 4000000
/-- What a row's cells read as. -/
def AskRd (W : World) (cs : List Value) (y : AskD) : Prop := cs = y.cells ∧ y.ok W
structure AskArgs (w : World) (a : Option Addr) (n : Nat) (l : List AskD) : Prop where
 len : l.length = n
 sm : n ≤ 140737488355328
 row : ∀ k, k < n → ∃ b off y, a = some ⟨b, off, none⟩ ∧ l[k]? = some y ∧ w.rangeAt b (off + k * 6) y.cells ∧ y.ok w
theorem AskArgs.below {w w' : World} {a : Option Addr} {n : Nat} {l : List AskD} (h : AskArgs w a n l) (hb : Below w.heap.size w w') : AskArgs w' a n l :=
 ⟨h.len, h.sm, fun k hk => let ⟨b, off, y, h1, h2, h3, h4⟩ := h.row k hk; ⟨b, off, y, h1, h2, range_later hb h3, h4.below hb⟩⟩
section
variable {H : Type} {enc : TypeId × Value → H} {W : World} {held : Bool}
theorem cellsAsk : Tryd.prog.cellsOf 63 = 6 := by kernel_rfl
theorem cellsBA : Tryd.prog.cellsOf 24 = 1 := by kernel_rfl
theorem cellsRA : Tryd.prog.cellsOf 23 = 1 := by kernel_rfl
theorem six {l : List Value} (h : l.length = 6) : ∃ a b c d e f, l = [a, b, c, d, e, f] := by
 match l, h with
 | [a, b, c, d, e, f], _ => exact ⟨a, b, c, d, e, f, rfl⟩
theorem ask_el (n : Nat) (cs : List Value) (d : DataW H) (p : List MemPlace) (h : DataW.trod enc Tryd.prog W 0 (fun _ => true) held n 63 cs = some (d, p)) (hw : ∀ q ∈ d.weights Tryd.prog 63, q ≤ reachBytes) :
  ∃ x : AskD, AskRd W cs x ∧ 0 ≤ Rows.uptoBulk d := by
 obtain ⟨xs, m, hxe, hx, hl, hlen, hf⟩ := DataW.trod_struct Tryd.underlying63 h
 rw [cellsAsk] at hl
 obtain ⟨c0, c1, c2, c3, c4, c5, rfl⟩ := six hl
 have h0 : DataW.trod enc Tryd.prog W 0 (fun _ => true) held m 3 [c0] = xs[0]? := by simpa [cellsI11] using hf 0 _ rfl
 have h1 : DataW.trod enc Tryd.prog W 0 (fun _ => true) held m 3 [c1] = xs[1]? := by simpa [cellsI11] using hf 1 _ rfl
 have h2 : DataW.trod enc Tryd.prog W 0 (fun _ => true) held m 3 [c2] = xs[2]? := by simpa [cellsI11] using hf 2 _ rfl
 have h3 : DataW.trod enc Tryd.prog W 0 (fun _ => true) held m 3 [c3] = xs[3]? := by simpa [cellsI11] using hf 3 _ rfl
 have h4 : DataW.trod enc Tryd.prog W 0 (fun _ => true) held m 23 [c4] = xs[4]? := by simpa [cellsRA] using hf 4 _ rfl
 have h5 : DataW.trod enc Tryd.prog W 0 (fun _ => true) held m 24 [c5] = xs[5]? := by simpa [cellsBA] using hf 5 _ rfl
 have hlen' : xs.length = 6 := by simpa using hlen
 match xs, hlen' with
 | [y0, y1, y2, y3, y4, y5], _ =>
  simp only [List.getElem?_cons_zero, List.getElem?_cons_succ] at h0 h1 h2 h3 h4 h5
  obtain ⟨z0, e0, _, w0⟩ := DataW.trod_int Tryd.underlying3 h0
  obtain ⟨z1, e1, _, w1⟩ := DataW.trod_int Tryd.underlying3 h1
  obtain ⟨z2, e2, _, w2⟩ := DataW.trod_int Tryd.underlying3 h2
  obtain ⟨z3, e3, _, w3⟩ := DataW.trod_int Tryd.underlying3 h3
  obtain ⟨v4, l4, e4, hA, _⟩ := core_sl (d := y4.1) (p := y4.2) Tryd.underlying23 cellsRaw (by decide) (show 1 ≤ Tryd.prog.bytesOf 75 from by
   have e : Tryd.prog.bytesOf 75 = 32 := by kernel_rfl
   omega) RawR (fun s => 0) raw_el h4 (fun q hq => hw q (by
   have hd := congrArg Prod.fst hx
   simp only at hd
   rw [hd]
   simp only [DataW.weights, Tryd.underlying63]
   simp only [List.map_cons, List.map_nil, DataW.weightsEach, List.mem_append]
   simp [hq]))
  obtain ⟨a4, n4, c4', rfl, hA'⟩ := Raws.rd hA
  obtain ⟨v5, l5, e5, ⟨a, n5, c, rfl, hr, hn, hc, hz⟩, _⟩ := core_argB (d := y5.1) (p := y5.2) h5 (fun q hq => hw q (by
   have hd := congrArg Prod.fst hx
   simp only at hd
   rw [hd]
   simp only [DataW.weights, Tryd.underlying63]
   simp only [List.map_cons, List.map_nil, DataW.weightsEach, List.mem_append]
   simp [hq]))
  simp at e0 e1 e2 e3 e4 e5
  subst e0 e1 e2 e3 e4 e5
  exact ⟨⟨z0, z1, z2, z3, a4, n4, c4', l4, a, n5, c, l5⟩, ⟨rfl, ⟨bounds_i64 w0, bounds_i64 w1, bounds_i64 w2, bounds_i64 w3, hA', hr, hn, hc, hz⟩⟩, Nat.zero_le _⟩
theorem open_Asks {b0 : Nat} {v : Value} {d : DataW H} {p : List MemPlace} (hval : Value.okWide Tryd.prog W .any b0 22 v)
  (h : DataW.Trod enc Tryd.prog W 0 (fun _ => true) held 22 v d p) (hw : ∀ n ∈ d.weights Tryd.prog 22, n ≤ reachBytes) :
  ∃ l : List AskD, ArgSl 6 (AskRd W) W v l ∧ 0 ≤ Rows.uptoBulk d :=
 let ⟨l, h1, h2, _⟩ := open_sl Tryd.underlying22 cellsAsk (by decide) (show 1 ≤ Tryd.prog.bytesOf 63 from by
  have e : 1 ≤ Tryd.prog.bytesOf 63 := by decide
  omega) (AskRd W) (fun s => 0) ask_el hval h hw
 ⟨l, h1, Nat.zero_le _⟩
end
theorem Asks.rd {w : World} {v : Value} {l : List AskD} (h : ArgSl 6 (AskRd w) w v l) : ∃ a n c, v = .slice a n c ∧ AskArgs w a n l := by
 obtain ⟨a, n, c, rfl, hl, hn, hc, hz, hrow⟩ := h
 refine ⟨a, n, c, rfl, hl, by omega, fun k hk => ?_⟩
 obtain ⟨b, off, cs, ha, h1, h2, h3, h4⟩ := hrow k hk
 refine ⟨b, off, l.getD k default, ha, ?_, fun j v hv => ?_, h4⟩
 ·rw [List.getD_eq_getElem?_getD, List.getElem?_eq_getElem (by omega)]; rfl
 ·have hj : j < 6 := by
   rcases Nat.lt_or_ge j 6 with h' | h'
   ·exact h'
   ·rw [List.getElem?_eq_none (by show 6 ≤ j; exact h')] at hv; cases hv
  rw [h2 j hj, h3]; exact hv
end
section
open Go.RowKit
set_option linter.unusedVariables false
set_option linter.unusedSimpArgs false
set_option maxRecDepth 100000
set_option maxHeartbeats 8000000
theorem PV.foot' {w : World} {tag : Int} {F F' : Nat → Prop} {m : Nat} {v : ItV} (h : PV w tag F m v) (hf : ∀ k, F k → F' k) : PV w tag F' m v := ⟨h.1, h.2, h.3, h.4, h.5, h.6, h.7, fun k hk => hf k (h.8 k hk), h.9⟩
theorem wp_build_rqH {P : Program} {o : Oper} {a : Act} {w : World} {K : Act → World → Prop} {Q : Exit → Act → World → Prop} (T E : TypeId) (x : Operand) (ho : o.op = .buildSlice T 1 #[(0, x)]) (v : RqIV) (hx : a.eval x = .agg v.arr)
  (i : TypeInfo) (hu : P.underlying T = some (.slice E)) (hi : P.info? E = some i) (hz : i.zero = some (.agg rqZ.arr)) (hs : i.size = 8)
  (h : K (a.put o.dst (.slice (some ⟨w.heap.size, 0, none⟩) 1 1)) (w.alloc (.cells v.arr E))) : o.wp P a w K Q := by
 refine wp_buildSlice T E 1 _ ho v.arr i _ hu hi hz (by rw [hs]; decide) (by rw [hs]; decide) ?_ h
 rw [hs, show ((#[(0, x)] : Array (Nat × Operand)).map fun (i, x) => (i, a.eval x)).toList = [(0, Value.agg v.arr)] from by simp [hx]]
 kernel_rfl
theorem wp_build_byteH {P : Program} {o : Oper} {a : Act} {w : World} {K : Act → World → Prop} {Q : Exit → Act → World → Prop} (T E : TypeId) (x : Operand) (ho : o.op = .buildSlice T 1 #[(0, x)]) (v : Int) (hx : a.eval x = .int .u8 v)
  (i : TypeInfo) (hu : P.underlying T = some (.slice E)) (hi : P.info? E = some i) (hz : i.zero = some (.int .u8 0)) (hs : i.size = 1)
  (h : K (a.put o.dst (.slice (some ⟨w.heap.size, 0, none⟩) 1 1)) (w.alloc (.cells #[.int .u8 v] E))) : o.wp P a w K Q := by
 refine wp_buildSlice T E 1 _ ho #[.int .u8 v] i _ hu hi hz (by rw [hs]; decide) (by rw [hs]; decide) ?_ h
 rw [hs, show ((#[(0, x)] : Array (Nat × Operand)).map fun (i, x) => (i, a.eval x)).toList = [(0, Value.int .u8 v)] from by simp [hx]]
 kernel_rfl
theorem own_lowerQ {w : World} {b b' : Nat} {T : TypeId} {size n : Nat} {v : Value} {xs : List Value} (h : w.ownsRow b T size v n xs) (hb : b' ≤ b) : w.ownsRow b' T size v n xs := by
 refine ⟨h.1, ?_⟩
 rcases h.2 with h' | ⟨g, cap, cur, h1, h2, h3⟩
 ·exact .inl h'
 ·exact .inr ⟨g, cap, cur, h1, Nat.le_trans hb h2, h3⟩
/-- What is known of an item of a batch that is made. -/
def QGood (x : RqIV) : Prop := (0 ≤ x.op ∧ x.op ≤ 60) ∧ (x.has = true ∨ x.id = []) ∧ x.id.length ≤ 1 ∧ x.pay.tag = 4325497 ∧ x.pay.typ = 1 ∧ x.pay.int = 0 ∧ x.pay.data = [] ∧ x.pay.ds.n = 0 ∧ nz x.pay.it = true ∧ x.pay.ks.n ≤ 20
/-- The request in the making. -/
structure QObj (w W : World) (b p : Nat) (q : RqV) : Prop where
 blk : W.heap[p]? = some (.cells q.arr 32 (0, 0))
 own : OwnRq 41 W (p + 1) q.its q.items
 good : ∀ x ∈ q.items, QGood x
 feet : ∀ x ∈ q.items, ∀ k ∈ x.foot, p + 1 ≤ k
 bel : Below b w W
 sz : w.heap.size = b
 res : W.heap[b]? = some (.cells (RqV.arr {}) 32 (0, 0))
 lt : b + 1 ≤ p
section
variable {w W W' : World} {b p : Nat} {q : RqV}
theorem QObj.old (h : QObj w W b p q) : Below w.heap.size w W := by rw [h.sz]; exact h.bel
theorem QObj.below (h : QObj w W b p q) (hb : Below W.heap.size W W') : QObj w W' b p q :=
 ⟨(hb.block _ (block_lt h.blk)).trans h.blk, h.own.below hb, h.good, h.feet, h.bel.trans (hb.mono (by have := block_lt h.blk; have := h.lt; omega)), h.sz, (hb.block _ (block_lt h.res)).trans h.res, h.lt⟩
/-- A cell of the request's block is set. -/
theorem qobj_set {q' : RqV} (hblk : W.heap[p]? = some (.cells q.arr 32 (0, 0))) (hbel : Below b w W) (hsz : w.heap.size = b) (hres : W.heap[b]? = some (.cells (RqV.arr {}) 32 (0, 0))) (hlt : b + 1 ≤ p) (j : Nat) (v : Value) (hq : q.arr.setIfInBounds j v = q'.arr) (ho : OwnRq 41 (W.setCell ⟨p, j, none⟩ v) (p + 1) q'.its q'.items) (hg : ∀ x ∈ q'.items, QGood x) (hf : ∀ x ∈ q'.items, ∀ k ∈ x.foot, p + 1 ≤ k) : QObj w (W.setCell ⟨p, j, none⟩ v) b p q' :=
 ⟨by rw [← hq]; exact block_setCell hblk v, ho, hg, hf, hbel.setCell (p := ⟨p, j, none⟩) (by simp only; omega) v, hsz, by rw [block_setCell_other (by omega)]; exact hres, hlt⟩
theorem QObj.set {q' : RqV} (h : QObj w W b p q) (j : Nat) (v : Value) (hq : q.arr.setIfInBounds j v = q'.arr) (ho : OwnRq 41 (W.setCell ⟨p, j, none⟩ v) (p + 1) q'.its q'.items) (hg : ∀ x ∈ q'.items, QGood x) (hf : ∀ x ∈ q'.items, ∀ k ∈ x.foot, p + 1 ≤ k) : QObj w (W.setCell ⟨p, j, none⟩ v) b p q' :=
 qobj_set h.blk h.bel h.sz h.res h.lt j v hq ho hg hf
theorem OwnRq.setP (h : OwnRq 41 W (p + 1) q.its q.items) (hf : ∀ x ∈ q.items, ∀ k ∈ x.foot, p + 1 ≤ k) (j : Nat) (v : Value) : OwnRq 41 (W.setCell ⟨p, j, none⟩ v) (p + 1) q.its q.items :=
 h.chg ((Chg.refl [p] W).setCell (.inl (by simp)) v) (fun k hk hm => by have h1 := (h.own.lt k hk).1; have := List.mem_singleton.1 hm; omega) (fun x hx k hk hm => by have h1 := hf x hx k hk; have := List.mem_singleton.1 hm; omega)
theorem QObj.push {w8 : World} (h : QObj w W b p q) (y : RqIV) (hy : y.ok W) (hgy : QGood y) (hap : ∀ k ∈ y.foot, q.its.v.ownBlock ≠ some k) (hlo : ∀ k ∈ y.foot, p + 1 ≤ k) {a : Option Addr} {n c : Nat}
  (ho : w8.ownsRow (p + 1) 41 8 (.slice a n c) n (rqCells q.items ++ y.cells)) (hg : W.grownBy w8 q.its.v.ownBlock) (hf : (Value.slice a n c).ownBlock = q.its.v.ownBlock ∨ ∀ k, (Value.slice a n c).ownBlock = some k → W.heap.size ≤ k) :
  w8.heap[p]? = some (.cells q.arr 32 (0, 0)) ∧ QObj w (w8.setCell ⟨p, 4, none⟩ (.slice a n c)) b p { q with its := ⟨a, n, c⟩, items := q.items ++ [y] } := by
 have hpl := block_lt h.blk
 have hrow : ∀ k ∈ q.its.v.ownBlock.toList, p + 1 ≤ k := fun k hk => by
  cases hv : q.its.v.ownBlock with
  | none => rw [hv] at hk; cases hk
  | some z => rw [hv] at hk; simp at hk; subst hk; exact (h.own.own.lt k hv).1
 have hc : Chg q.its.v.ownBlock.toList W w8 := (Chg.refl _ W).grown hg (fun k hk => .inl (by rw [hk]; simp))
 have hp : w8.heap[p]? = some (.cells q.arr 32 (0, 0)) := (hc.block p hpl (fun hm => by have := hrow p hm; omega)).trans h.blk
 have hb8 : Below (p + 1) W w8 := hc.below hrow hpl
 have ho2 : w8.ownsRow (p + 1) 41 8 (.slice a n c) n (rqCells (q.items ++ [y])) := by rw [rq_app]; simpa [rqCells] using ho
 have h8 := h.own.app (Below.refl _ _) y hy hap ho2 hg hf
 have hft : ∀ x ∈ q.items ++ [y], ∀ k ∈ x.foot, p + 1 ≤ k := fun x hx => by
  rcases List.mem_append.1 hx with h' | h'
  ·exact h.feet x h'
  ·rw [List.mem_singleton.1 h']; exact hlo
 exact ⟨hp, qobj_set hp (h.bel.trans (hb8.mono (by have := h.lt; omega))) h.sz ((hb8.block _ (by have := h.lt; omega)).trans h.res) h.lt 4 _ rfl (OwnRq.setP (q := { q with its := ⟨a, n, c⟩, items := q.items ++ [y] }) h8 hft 4 _) (fun x hx => by
  rcases List.mem_append.1 hx with h' | h'
  ·exact h.good x h'
  ·rw [List.mem_singleton.1 h']; exact hgy) hft⟩
end
def stOp : St Grow := ⟨fun v w => ∃ r : Int, v = .int .i64 r ∧ 0 ≤ r ∧ r ≤ 60, fun v w w' h hg => h⟩
def stIds (cw : Nat) : St Grow := ⟨fun v w => ∃ (s : Sl) (l : List UInt8), v = .slice s.a s.n s.c ∧ SlC w s (l.map B8) ∧ (∀ k ∈ s.blk, cw ≤ k) ∧ l.length = 1, fun v w w' h hg => let ⟨s, l, e, h1, h2⟩ := h; ⟨s, l, e, h1.below hg, h2⟩⟩
def stPay (cw : Nat) : St Grow := ⟨fun v w => ∃ (x : ItV) (m : Nat), v = .agg x.arr ∧ PV w 4325497 (fun k => cw ≤ k) m x ∧ m ≤ 20, fun v w w' h hg => let ⟨s, l, e, h1, h2⟩ := h; ⟨s, l, e, h1.below hg, h2⟩⟩
def stQi (cw : Nat) : St Grow := ⟨fun v w => ∃ x : RqIV, v = .agg x.arr ∧ x.ok w ∧ QGood x ∧ x.has = true ∧ ∀ k ∈ x.foot, cw ≤ k, fun v w w' h hg => let ⟨s, e, h1, h2⟩ := h; ⟨s, e, h1.below hg, h2⟩⟩
def stQis (cw : Nat) : St Grow := ⟨fun v w => ∃ (s : Sl) (x : RqIV), v = .slice s.a s.n s.c ∧ s.n = 1 ∧ x.ok w ∧ QGood x ∧ x.has = true ∧ (∀ k ∈ x.foot, cw ≤ k) ∧ RdC w s.a (1 * 8) x.cells ∧ (s.a = none → s.c = 0), fun v w w' h hg => let ⟨s, x, e, h0, h1, h2, h3, h4, h5, h6⟩ := h; ⟨s, x, e, h0, h1.below hg, h2, h3, h4, (Chg.of_below hg []).rdC h5 (fun _ _ _ _ hm => by cases hm), h6⟩⟩
theorem akSize : (Tryd.prog.info? 63).map (·.size) = some 6 := by kernel_rfl
theorem qBuild4 (op : Int) (has : Bool) (s : Sl) (l : List UInt8) (p : ItV) (w : World) : (Instr.build 41 #[(0, .int .i64 op), (1, .bool has), (2, .slice s.a s.n s.c), (3, .agg p.arr)]).run Tryd.prog w = .ok (.agg (RqIV.arr { op := op, has := has, id := l, ids := s, pay := p })) w := by kernel_rfl
theorem qBuildH (op : Int) (p : ItV) (w : World) : (Instr.build 41 #[(0, .int .i64 op), (3, .agg p.arr)]).run Tryd.prog w = .ok (.agg (RqIV.arr { op := op, pay := p })) w := by kernel_rfl
theorem vBuildH (a b c : Int) (w : World) : (Instr.build 32 #[(0, .int .i64 a), (1, .int .i64 b), (3, .int .i64 c)]).run Tryd.prog w = .ok (.agg (RqV.arr { major := a, minor := b, opt := c })) w := by kernel_rfl
/-- A request that is made. -/
def RqRes (w : World) (e : Ending) (w' : World) : Prop := ∃ q : RqV, e = .returned (.agg q.arr) ∧ (q.major = 1 ∧ q.minor = 4 ∧ (0 ≤ q.max ∧ q.max ≤ 3099) ∧ 1 ≤ q.opt ∧ q.opt ≤ 3) ∧ (1 ≤ q.its.n ∧ q.its.n ≤ 5) ∧ (q.its.n = 1 ∨ ∀ x ∈ q.items, x.has = true) ∧
 OwnRq 41 w' w.heap.size q.its q.items ∧ (∀ x ∈ q.items, QGood x) ∧ (∀ x ∈ q.items, ∀ k ∈ x.foot, w.heap.size ≤ k) ∧ Below w.heap.size w w'
theorem request_any (a : Option Addr) (n cL : Nat) (l0 : List AskD) (option most : Int) (w : World) (hal : AskArgs w a n l0) (hnt : NamesTab w) (hkt : KindsTab w) :
  Calls Tryd.prog 12 #[.slice a n cL, .int .i64 option, .int .i64 most] w (RqRes w) := by
 obtain ⟨i, hi, hz0, hz1, hz2⟩ := info_parts iInfo
 obtain ⟨ib, hib, hb0, hb1, hb2⟩ := info_parts infoB
 obtain ⟨iq, hiq, hy0, hy1, hy2⟩ := info_parts qInfo
 have hnm := hal.sm
 have HAL := hid hal; have HT := hid hnt; have HK := hid hkt
 clear hal hnt hkt
 unfold RqRes
 have hsz0 : (RqV.arr {}).size = 5 := rfl
 generalize hbe : w.heap.size = b at *
 have HBE := hid hbe; clear hbe
 go_enter Tryd.func12, Tryd.ntmps12
 go_upto_region 1 with (refine wpList_alloc_obj rfl 32 rfl _ vZero ?_)
 go_simp
 have hb0' : Below w.heap.size w (w.alloc (.cells rvZ.arr 32)) := (Below.refl _ _).alloc (Nat.le_refl _) _
 have hr0 := block_new w (.cells rvZ.arr 32)
 have hs0 : (w.alloc (.cells rvZ.arr 32)).heap.size = b + 1 := by simp [HBE.out]
 rw [HBE.out] at hb0' hr0 ⊢
 have HB0 := hid hb0'; have HR0 := hid hr0; have HS0 := hid hs0
 clear hb0' hr0 hs0 hsz0
 generalize w.alloc (.cells rvZ.arr 32) = W at *
 have p1 := pick_lo option 3 (by omega)
 have p2 := pick_hi option 3 (by omega)
 have hw1 : IntKind.i64.wrap (1 + pick option 3) = 1 + pick option 3 := IntWalk.i64_in _ (by omega)
 go_wp2_with fail
 refine (pick_any option 3 _ (by omega) (by omega)).mono ?_
 rintro e u ⟨rfl, rfl⟩
 go_upto_region 2 with (first | (refine wpList_build_obj rfl 32 _ rfl #[(0, .int .i64 1), (1, .int .i64 4), (3, .int .i64 (1 + pick option 3))] rfl _ (vBuildH _ _ _ _) ?_) | (refine wpList_alloc_obj rfl 32 rfl _ vZero ?_) | (refine wpList_store_obj rfl 32 _ _ rfl W.heap.size rfl (RqV.arr ({ major := 1, minor := 4, opt := 1 + pick option 3 } : RqV)) rfl _ _ (block_new W _) rfl vSize (varr_one _) ?_; intro w2 hb2 hc2 hs2; have HB2 := hid hb2; have HC2 := hid hc2; clear hb2 hc2 hs2))
 have hb2w : Below W.heap.size W w2 := ((Below.refl _ W).alloc (Nat.le_refl _) _).trans (HC2.out.below (fun k hk => by rw [List.mem_singleton.1 hk]; exact Nat.le_refl _) (by simp))
 have hq2 : QObj w w2 b W.heap.size ({ major := 1, minor := 4, opt := 1 + pick option 3 } : RqV) := ⟨HB2.out, OwnRq.nil _ _ _, (fun x hx => by cases hx), (fun x hx => by cases hx), HB0.out.trans (hb2w.mono (by rw [HS0.out]; omega)), HBE.out, (hb2w.block _ (by rw [HS0.out]; omega)).trans HR0.out, by rw [HS0.out]; exact Nat.le_refl _⟩
 have HQ2 := hid hq2
 clear hb2w hq2 HB2 HC2 HB0 HR0
 generalize W.heap.size = p at *
 have hw7 : IntKind.i64.wrap (most.tmod 7) = most.tmod 7 := wrap_tmod (by omega) (by omega)
 go_upto_if 15 with (fail)
 go_cut [] (fun wx => ∃ mx : Int, (0 ≤ mx ∧ mx ≤ 3099) ∧ QObj w wx b p ({ major := 1, minor := 4, max := mx, opt := 1 + pick option 3, its := {}, items := [] } : RqV))
 case first =>
  by_cases h7 : most.tmod 7 = 0
  ·have h7b : (most.tmod 7 == 0) = true := by simpa using h7
   have m1 := pick_lo most 3000 (by omega)
   have m2 := pick_hi most 3000 (by omega)
   have hw9 : IntKind.i64.wrap (100 + pick most 3000) = 100 + pick most 3000 := IntWalk.i64_in _ (by omega)
   have hc2 := cell_of_block (j := 2) HQ2.out.blk (qr2 _)
   have hfz : ∀ j, w2.frozen? ⟨p, j, none⟩ = false := fun j => frozen_of_block HQ2.out.blk
   go_wp2_with fail
   refine (pick_any most 3000 _ (by omega) (by omega)).mono ?_
   rintro e u ⟨rfl, rfl⟩
   go_wp2_with fail
   go_meet
   exact ⟨100 + pick most 3000, ⟨by omega, by omega⟩, HQ2.out.set 2 _ rfl (OwnRq.nil _ _ _) (fun x hx => by cases hx) (fun x hx => by cases hx)⟩
  ·have h7b : (most.tmod 7 == 0) = false := by simpa using h7
   go_wp2_with fail
   go_meet
   exact ⟨0, ⟨by omega, by omega⟩, HQ2.out⟩
 case rest =>
  clear HQ2 hw7 hw1
  obtain ⟨mx, hmx, hq⟩ := hcut
  have HQ3 := hid hq; have HMX := hid hmx
  clear hq hmx
  go_upto_block 0 with (fail)
  go_cut [] (fun wx => ∃ (s : Sl) (l : List RqIV), QObj w wx b p ({ major := 1, minor := 4, max := mx, opt := 1 + pick option 3, its := s, items := l } : RqV) ∧ l.length ≤ 5 ∧ ∀ x ∈ l, x.has = true)
  case first =>
   go_wp2_with fail
   go_loopw [8] (fun u wr => ∃ (k : Nat) (s : Sl) (l : List RqIV), k ≤ n ∧ k ≤ 5 ∧ u = .int .i64 (k : Int) ∧ QObj w wr b p ({ major := 1, minor := 4, max := mx, opt := 1 + pick option 3, its := s, items := l } : RqV) ∧ s.n = k ∧ ∀ x ∈ l, x.has = true) (fun u _ => 5 - (intOf u).toNat)
   case atStart => exact ⟨0, {}, [], Nat.zero_le _, Nat.zero_le _, rfl, HQ3.out, rfl, fun x hx => by cases hx⟩
   case round =>
    clear HQ3
    obtain ⟨k, s, l, hkn, hk5, rfl, hq, hsk, hhas⟩ := hrel
    have Q := hid hq; have HSK := hid hsk; have HHAS := hid hhas
    clear hq hsk hhas
    have FIN : Hid (∃ (s : Sl) (l : List RqIV), QObj w wr b p ({ major := 1, minor := 4, max := mx, opt := 1 + pick option 3, its := s, items := l } : RqV) ∧ l.length ≤ 5 ∧ ∀ x ∈ l, x.has = true) := ⟨s, l, Q.out, (by have h1 : l.length = s.n := Q.out.own.len; have h2 := HSK.out; omega), HHAS.out⟩
    by_cases hlt : k < n
    ·by_cases hlt5 : k < 5
     ·clear FIN
      obtain ⟨bx, ox, y, hax, hy, hrg, hyok⟩ := (HAL.out.below Q.out.old).row k hlt
      subst hax
      have HRG := hid hrg; have HY := hid hyok
      clear hy hrg hyok
      have HI : Hid ((0 : Int) ≤ (k : Int) ∧ (k : Int) < (n : Int)) := ⟨by omega, by omega⟩
      have HW8 : Hid (IntKind.u8.wrap (k : Int) = (k : Int)) := IntWalk.u8_in _ (by omega)
      have HB8 : Hid (Value.int .u8 (k : Int) = B8 (UInt8.ofNat k)) := by
       show _ = _
       unfold B8
       rw [UInt8.toNat_ofNat_of_lt' (by show k < 256; omega)]
      obtain ⟨cw, hcw⟩ : ∃ c, c = wr.heap.size := ⟨_, rfl⟩
      have HCW : Hid (wr.heap.size = cw) := hcw.symm
      clear hcw
      go_upto_region 7 with (fail)
      refine wp_region_each 18 [.eq (.pointer (some ⟨p, 4, none⟩)), .eq (.slice s.a s.n s.c), .eq (.slice (some ⟨bx, ox, none⟩) n cL), .eq (.int .i64 (k : Int)), .eq (.pointer (some ⟨bx, ox + k * 6, none⟩)), .eq (.pointer (some ⟨bx, ox + k * 6, none⟩)), .eq (.int .i64 y.op), stOp, .eq (.int .i64 (k : Int)), .eq (.int .u8 (k : Int)), stIds cw, .eq (.slice (some ⟨bx, ox, none⟩) n cL), .eq (.int .i64 (k : Int)), .eq (.pointer (some ⟨bx, ox + k * 6, none⟩)), .eq (.agg y.arr), stPay cw, stQi cw, stQis cw] (by kernel_rfl) (by kernel_rfl) (by kernel_rfl) (by kernel_rfl) ?_ ?_
      ·all_goals
        refine each_5 ?_ ?_ ?_ ?_ ?_ (each_5 ?_ ?_ ?_ ?_ ?_ (each_5 ?_ ?_ ?_ ?_ ?_ (each_c ?_ (each_c ?_ (each_c ?_ (each_n))))))
        ·intro w1 hg Ar seen
         have s7 := seen.sl 7 (.pointer (some ⟨p, 0, none⟩))
         refine does_plain rfl fun K Q' hK => ?_
         go_simp; exact hK _ _ (Grow.refl _) rfl
        ·intro w1 hg Ar seen
         have e0 := seen.de 0 30
         refine does_plain rfl fun K Q' hK => ?_
         have hc := cell_of_block (j := 4) ((hg.block _ (block_lt Q.out.blk)).trans Q.out.blk) (qr4 _)
         go_simp; exact hK _ _ (Grow.refl _) rfl
        ·intro w1 hg Ar seen
         have s0 := seen.sl 0 (.slice (some ⟨bx, ox, none⟩) n cL)
         refine does_plain rfl fun K Q' hK => ?_
         go_simp; exact hK _ _ (Grow.refl _) rfl
        ·intro w1 hg Ar seen
         have s8 := seen.sl 8 (.int .i64 (k : Int))
         refine does_plain rfl fun K Q' hK => ?_
         go_simp; exact hK _ _ (Grow.refl _) rfl
        ·intro w1 hg Ar seen
         have e2 := seen.de 2 32
         have e3 := seen.de 3 33
         refine does_plain rfl fun K Q' hK => ?_
         have hi := HI.out; have hj := HI.out.2
         go_simp; exact hK _ _ (Grow.refl _) rfl
        ·intro w1 hg Ar seen
         have e4 := seen.de 4 34
         refine does_plain rfl fun K Q' hK => ?_
         go_simp; exact hK _ _ (Grow.refl _) rfl
        ·intro w1 hg Ar seen
         have e5 := seen.de 5 35
         refine does_plain rfl fun K Q' hK => ?_
         have hc : w1.cell? ⟨bx, ox + k * 6, none⟩ = some (.int .i64 y.op) := (range_later hg HRG.out) 0 _ rfl
         go_simp; exact hK _ _ (Grow.refl _) rfl
        ·intro w1 hg Ar seen
         have e6 := seen.de 6 36
         refine does_plain rfl fun K Q' hK => ?_
         go_simp
         refine (op_any y.op _ ((HK.out.below Q.out.old).below hg)).mono ?_
         rintro e u ⟨r, rfl, h0, h1, rfl⟩
         exact hK _ _ (Grow.refl _) ⟨r, rfl, h0, h1⟩
        ·intro w1 hg Ar seen
         have s8 := seen.sl 8 (.int .i64 (k : Int))
         refine does_plain rfl fun K Q' hK => ?_
         go_simp; exact hK _ _ (Grow.refl _) rfl
        ·intro w1 hg Ar seen
         have e8 := seen.de 8 38
         refine does_plain rfl fun K Q' hK => ?_
         have hw := HW8.out
         go_simp; exact hK _ _ (Grow.refl _) rfl
        ·intro w1 hg Ar seen
         have e9 := seen.de 9 39
         refine does_plain rfl fun K Q' hK => ?_
         refine wp_build_byteH _ 5 _ rfl (k : Int) (by simp [Act.eval, e9]) ib Tryd.underlying24 hib hb0 hb1 ?_
         exact hK _ _ ((Below.refl _ _).alloc (Nat.le_refl _) _) ⟨⟨some ⟨w1.heap.size, 0, none⟩, 1, 1⟩, [UInt8.ofNat k], rfl, (by rw [List.map_cons, List.map_nil, ← HB8.out]; exact ⟨RdC.new _ _ _ _ _ rfl 1 rfl _ rfl, by simp, by simp, by simp [Sl.blk]⟩), (fun q hq => by simp [Sl.blk] at hq; have h1 := HCW.out; have h2 := hg.size; omega), rfl⟩
        ·intro w1 hg Ar seen
         have s0 := seen.sl 0 (.slice (some ⟨bx, ox, none⟩) n cL)
         refine does_plain rfl fun K Q' hK => ?_
         go_simp; exact hK _ _ (Grow.refl _) rfl
        ·intro w1 hg Ar seen
         have s8 := seen.sl 8 (.int .i64 (k : Int))
         refine does_plain rfl fun K Q' hK => ?_
         go_simp; exact hK _ _ (Grow.refl _) rfl
        ·intro w1 hg Ar seen
         have e11 := seen.de 11 41
         have e12 := seen.de 12 42
         refine does_plain rfl fun K Q' hK => ?_
         have hi := HI.out; have hj := HI.out.2
         go_simp; exact hK _ _ (Grow.refl _) rfl
        ·intro w1 hg Ar seen
         have e13 := seen.de 13 43
         refine does_plain rfl fun K Q' hK => ?_
         refine wp_load_mid 63 _ rfl bx (ox + k * 6) (by simp [Act.eval, e13]) y.arr.toList _ (range_later hg HRG.out) Tryd.underlying63 rfl akSize ?_
         simp only [Array.toArray_toList]
         exact hK _ _ (Grow.refl _) rfl
        ·intro w1 hg Ar seen
         have e14 := seen.de 14 44
         refine does_plain rfl fun K Q' hK => ?_
         go_simp
         refine (payload_any y _ (HY.out.below hg) ((HT.out.below Q.out.old).below hg) ((HK.out.below Q.out.old).below hg)).mono ?_
         rintro e u ⟨v, mm, rfl, hpv, hmm, hb⟩
         exact hK _ _ hb ⟨v, mm, rfl, hpv.foot' (fun q hq => by have h1 := HCW.out; have h2 := hg.size; omega), hmm⟩
        ·intro w1 hg Ar seen
         obtain ⟨v7, e7, h7⟩ := seen.dp 7 37
         obtain ⟨v10, e10, h10⟩ := seen.dp 10 40
         obtain ⟨v15, e15, h15⟩ := seen.dp 15 45
         refine does_plain rfl fun K Q' hK => ?_
         obtain ⟨op, rfl, hp0, hp1⟩ := h7
         obtain ⟨ids, idl, rfl, hid1, hid2, hid3⟩ := h10
         obtain ⟨v, mm, rfl, hpv, hmm⟩ := h15
         refine wp_build_obj 41 _ rfl #[(0, .int .i64 op), (1, .bool true), (2, .slice ids.a ids.n ids.c), (3, .agg v.arr)] (by simp [Act.eval, e7, e10, e15]) _ (qBuild4 _ _ _ idl _ _) ?_
         exact hK _ _ (Grow.refl _) ⟨_, rfl, ⟨hid1, hpv.ok⟩, ⟨⟨hp0, hp1⟩, .inl rfl, by simp [hid3], hpv.tag, hpv.typ, hpv.int, hpv.data, hpv.dn, hpv.nz, by rw [hpv.ks]; exact hmm⟩, rfl, fun q hq => by rcases List.mem_append.1 hq with h | h; exact hid2 q h; exact hpv.foot q h⟩
        ·intro w1 hg Ar seen
         obtain ⟨v16, e16, h16⟩ := seen.dp 16 46
         refine does_plain rfl fun K Q' hK => ?_
         obtain ⟨q, rfl, hq1, hq2, hq3, hq4⟩ := h16
         refine wp_build_rqH _ 41 _ rfl q (by simp [Act.eval, e16] <;> rfl) iq Tryd.underlying30 hiq hy0 hy1 ?_
         exact hK _ _ ((Below.refl _ _).alloc (Nat.le_refl _) _) ⟨⟨some ⟨w1.heap.size, 0, none⟩, 1, 1⟩, q, rfl, rfl, hq1.below ((Below.refl _ _).alloc (Nat.le_refl _) _), hq2, hq3, hq4, RdC.new _ _ _ _ q.cells (by simp [RqIV.cells]) 8 rfl _ rfl, by simp⟩
      intro w1 hg
      refine upon_w' (js := [0, 1, 2, 3, 4, 5, 6, 7, 8, 9, 10, 11, 12, 13, 14, 15, 16, 17]) (by rfl) ?_
      refine upon_e (some 30) (upon_e (some 31) (upon_e (some 32) (upon_e (some 33) (upon_e (some 34) (upon_e (some 35) (upon_e (some 36) (upon_v (some 37) fun v7 h7 => upon_e (some 38) (upon_e (some 39) (upon_v (some 40) fun v10 h10 => upon_e (some 41) (upon_e (some 42) (upon_e (some 43) (upon_e (some 44) (upon_v (some 45) fun v15 h15 => upon_v (some 46) fun v16 h16 => upon_v (some 47) fun v17 h17 => upon_n ?_)))))))))))))
      obtain ⟨s1, y1, rfl, hn1, hyo, hyg, hyh, hyf, hrd, hno⟩ := h17
      obtain ⟨a1, n1, c1⟩ := s1
      simp only at hn1 hrd hno
      subst hn1
      have HRD := hid hrd; have HNO := hid hno
      have HO1 : Hid (∀ k, s.v.ownBlock = some k → k < cw) := fun k hk => by have h1 := (Q.out.own.own.lt k hk).2; have h2 := HCW.out; omega
      have HPW : Hid (p < cw) := by have h1 := block_lt Q.out.blk; have h2 := HCW.out; show p < cw; omega
      have Q1 := hid (Q.out.below hg)
      have HYY := hid (And.intro hyo (And.intro hyg (And.intro hyf hyh)))
      have HZ1 : Hid (p + 1 ≤ w1.heap.size) := Nat.le_trans (block_lt Q.out.blk) hg.size
      clear hrd hno hyo hyg hyh hyf hg h7 h10 h15 h16 Q HCW
      go_simp
      go_wp2_with (at_builtin; go_must (refine wpList_append_c rfl _ _ 30 rfl (p + 1) 41 iq _ 8 112 Tryd.underlying30 hiq hy0 hy1 hy2 rfl (by decide) (.slice s.a s.n s.c) s.n _ rfl Q1.out.own.own _ 1 _ y1.cells rfl HRD.out (by have := rq_one [y1]; simpa [rqCells] using this) HNO.out (by have := HSK.out; unfold maxLen; omega) (by have := HSK.out; omega) HZ1.out ?_); intro a' c' w8 hown hgw hfr; have hpush := Q1.out.push y1 HYY.out.1 HYY.out.2.1 (fun k hk he => (by have h1 := HYY.out.2.2.1 k hk; have h2 := HO1.out k he; omega)) (fun k hk => (by have h1 := HYY.out.2.2.1 k hk; have h2 := HPW.out; omega)) hown hgw hfr; have hq4 := cell_of_block (j := 4) hpush.1 (qr4 _); have hp8 := hid hpush.1; have hfz : ∀ j, w8.frozen? ⟨p, j, none⟩ = false := (fun j => frozen_of_block hp8.out); have Q8 := hid hpush.2; clear hown hgw hfr hpush hp8)
      have HREL : Hid (∃ (k' : Nat) (s2 : Sl) (l2 : List RqIV), k' = k + 1 ∧ QObj w (w8.setCell ⟨p, 4, none⟩ (.slice a' (s.n + 1) c')) b p ({ major := 1, minor := 4, max := mx, opt := 1 + pick option 3, its := s2, items := l2 } : RqV) ∧ s2.n = k' ∧ ∀ x ∈ l2, x.has = true) :=
       ⟨k + 1, ⟨a', s.n + 1, c'⟩, l ++ [y1], rfl, Q8.out, by have := HSK.out; simp only; omega, fun x hx => by
        rcases List.mem_append.1 hx with h' | h'
        ·exact HHAS.out x h'
        ·rw [List.mem_singleton.1 h']; exact HYY.out.2.2.2⟩
      obtain ⟨k', s2, l2, rfl, hq2, hs2, hh2⟩ := HREL.out
      have HQ2 := hid hq2; have HS2 := hid hs2; have HH2 := hid hh2
      clear HREL hq2 hs2 hh2
      go_roundw
      case rel =>
       first
        | exact ⟨k + 1, s2, l2, by omega, by omega, rfl, HQ2.out, HS2.out, HH2.out⟩
        | exact ⟨k + 1, s2, l2, by omega, by omega, by go_num, HQ2.out, HS2.out, HH2.out⟩
      case measure => simp [intOf]; omega
     ·obtain rfl : k = 5 := by omega
      go_wp2_with fail
      go_meet
      exact FIN.out
    ·obtain rfl : k = n := by omega
     go_wp2_with fail
     go_meet
     exact FIN.out
  case rest =>
   clear HQ3
   obtain ⟨s, l, hq, hl5, hhas⟩ := hcut
   have Q := hid hq; have HL5 := hid hl5; have HHAS := hid hhas
   have HLN : Hid (l.length = s.n) := hq.own.len
   have hc4 := cell_of_block (j := 4) hq.blk (qr4 _)
   have hfz : ∀ j, wc.frozen? ⟨p, j, none⟩ = false := fun j => frozen_of_block Q.out.blk
   clear hq hl5 hhas
   by_cases hs0 : s.n = 0
   ·have hs0b : ((s.n : Int) == 0) = true := by simp [hs0]
    go_wp2_with fail
    refine (handOf_any 4325497 {} _).mono ?_
    rintro e w4 ⟨rfl, hb4⟩
    have Q4 := hid (Q.out.below hb4)
    obtain ⟨y1, hye⟩ : ∃ y1 : RqIV, y1 = { op := 24, pay := { tag := 4325497, typ := 1 } } := ⟨_, rfl⟩
    have hyo : ∀ w, y1.ok w := fun w => by rw [hye]; exact ⟨SlC.nil _, numV_ok _ _ _ _⟩
    have hyg : QGood y1 := by rw [hye]; exact ⟨⟨by decide, by decide⟩, .inr rfl, by decide, rfl, rfl, rfl, rfl, rfl, (by show nz (ItV.it { tag := 4325497, typ := 1 }) = true; exact numV_nz _ _ _), by decide⟩
    have hyf : y1.foot = [] := by rw [hye]; rfl
    have HYE := hid hye; have HYO := hid hyo; have HYG := hid hyg; have HYF := hid hyf
    have hba : Below w4.heap.size w4 (w4.alloc (.cells y1.arr 41)) := (Below.refl _ _).alloc (Nat.le_refl _) _
    have Q5 := hid (Q4.out.below hba)
    have HPW : Hid (p + 1 ≤ w4.heap.size) := block_lt Q4.out.blk
    have hown1 : OwnRq 41 (w4.alloc (.cells y1.arr 41)) (p + 1) ⟨some ⟨w4.heap.size, 0, none⟩, 1, 1⟩ [y1] := ⟨by have h := own_built (w := w4) (T := 41) (base := p + 1) (size := 8) (n := 1) (C := y1.arr) HPW.out rfl (by decide); simpa [rqCells, RqIV.cells] using h, fun x hx => by rw [List.mem_singleton.1 hx]; exact HYO.out _, fun x hx k hk => by rw [List.mem_singleton.1 hx, HYF.out] at hk; cases hk⟩
    have HOW1 := hid hown1
    have hc40 := cell_of_block (j := 4) Q4.out.blk (qr4 _)
    have hc4' : ∀ o, (w4.alloc o).cell? ⟨p, 4, none⟩ = some (.slice s.a s.n s.c) := fun o => cell_later ((Below.refl _ _).alloc (Nat.le_refl _) o) hc40
    have hfz' : ∀ o j, (w4.alloc o).frozen? ⟨p, j, none⟩ = false := fun o j => frozen_of_block ((((Below.refl w4.heap.size w4).alloc (Nat.le_refl _) o).block p (block_lt Q4.out.blk)).trans Q4.out.blk)
    clear hye hyo hyg hyf hba hb4 hown1 hc4 hfz hc40 Q
    have hsz : (ItV.arr { tag := 4325497, typ := 1 }).size = 5 := rfl
    go_upto_region 10 with (fail)
    clear hc4' hfz' hsz
    have Q6 : Hid (QObj w ((w4.alloc (.cells y1.arr 41)).setCell ⟨p, 4, none⟩ (.slice (some ⟨w4.heap.size, 0, none⟩) 1 1)) b p ({ major := 1, minor := 4, max := mx, opt := 1 + pick option 3, its := ⟨some ⟨w4.heap.size, 0, none⟩, 1, 1⟩, items := [y1] } : RqV)) := Q5.out.set 4 _ rfl (OwnRq.setP (q := ({ major := 1, minor := 4, max := mx, opt := 1 + pick option 3, its := ⟨some ⟨w4.heap.size, 0, none⟩, 1, 1⟩, items := [y1] } : RqV)) HOW1.out (fun x hx k hk => by rw [List.mem_singleton.1 hx, HYF.out] at hk; cases hk) 4 _) (fun x hx => by rw [List.mem_singleton.1 hx]; exact HYG.out) (fun x hx k hk => by rw [List.mem_singleton.1 hx, HYF.out] at hk; cases hk)
    rw [HYE.out] at Q6
    generalize hw5 : w4.alloc _ = w5
    have hw6 : w4.alloc (.cells (RqIV.arr { op := 24, pay := { tag := 4325497, typ := 1 } }) 41) = w5 := by rw [← hw5]; kernel_rfl
    rw [hw6] at Q6
    clear hw5 hw6 Q5 Q4 HOW1
    have HN1 : Hid ((1 : Nat) = 1 ∨ ∀ x ∈ [({ op := 24, pay := { tag := 4325497, typ := 1 } } : RqIV)], x.has = true) := .inl rfl
    have HN5 : Hid (1 ≤ 1 ∧ 1 ≤ 5) := ⟨by decide, by decide⟩
    go_wp2_with (first | (refine wpList_load_row rfl 32 _ rfl p rfl _ _ _ _ Q6.out.blk Tryd.underlying32 rfl vSize ?_) | (refine wpList_store_obj rfl 32 _ _ rfl b rfl (RqV.arr ({ major := 1, minor := 4, max := mx, opt := 1 + pick option 3, its := ⟨some ⟨w4.heap.size, 0, none⟩, 1, 1⟩, items := [{ op := 24, pay := { tag := 4325497, typ := 1 } }] } : RqV)) rfl _ _ Q6.out.res rfl vSize (varr_one _) ?_; intro w10 hb10 hc10 hs10; have HB10 := hid hb10; have HC10 := hid hc10; clear hb10 hc10 hs10))
    refine bodyPost_ret (results_cell_row rfl _ _ b _ _ _ _ rfl HB10.out Tryd.underlying32 rfl vSize) rfl ?_
    have hlt := Q6.out.lt
    have hown := Q6.out.own.chg HC10.out (fun k hk hm => by have h1 := (Q6.out.own.own.lt k hk).1; have h2 := List.mem_singleton.1 hm; omega) (fun x hx k hk hm => by have h1 := Q6.out.feet x hx k hk; have h2 := List.mem_singleton.1 hm; omega)
    exact ⟨_, rfl, ⟨rfl, rfl, HMX.out, by simp only; omega, by simp only; omega⟩, (show 1 ≤ 1 ∧ 1 ≤ 5 from ⟨by decide, by decide⟩), (.inl rfl), ⟨own_lowerQ hown.own (by omega), hown.ok, hown.apart⟩, Q6.out.good, (fun x hx k hk => by have h1 := Q6.out.feet x hx k hk; omega), Q6.out.bel.trans (HC10.out.below (fun k hk => by rw [List.mem_singleton.1 hk]; exact Nat.le_refl _) (by have h1 := block_lt Q6.out.blk; omega))⟩
   ·have hs0b : ((s.n : Int) == 0) = false := by simp; omega
    go_upto_region 10 with (fail)
    clear hc4 hfz
    go_wp2_with (first | (refine wpList_load_row rfl 32 _ rfl p rfl _ _ _ _ Q.out.blk Tryd.underlying32 rfl vSize ?_) | (refine wpList_store_obj rfl 32 _ _ rfl b rfl (RqV.arr ({ major := 1, minor := 4, max := mx, opt := 1 + pick option 3, its := s, items := l } : RqV)) rfl _ _ Q.out.res rfl vSize (varr_one _) ?_; intro w10 hb10 hc10 hs10; have HB10 := hid hb10; have HC10 := hid hc10; clear hb10 hc10 hs10))
    refine bodyPost_ret (results_cell_row rfl _ _ b _ _ _ _ rfl HB10.out Tryd.underlying32 rfl vSize) rfl ?_
    have hlt := Q.out.lt
    have hown := Q.out.own.chg HC10.out (fun k hk hm => by have h1 := (Q.out.own.own.lt k hk).1; have h2 := List.mem_singleton.1 hm; omega) (fun x hx k hk hm => by have h1 := Q.out.feet x hx k hk; have h2 := List.mem_singleton.1 hm; omega)
    exact ⟨_, rfl, ⟨rfl, rfl, HMX.out, by simp only; omega, by simp only; omega⟩, ⟨by simp only; omega, by have h1 := HL5.out; have h2 := HLN.out; simp only; omega⟩, (.inr HHAS.out), ⟨own_lowerQ hown.own (by omega), hown.ok, hown.apart⟩, Q.out.good, (fun x hx k hk => by have h1 := Q.out.feet x hx k hk; omega), Q.out.bel.trans (HC10.out.below (fun k hk => by rw [List.mem_singleton.1 hk]; exact Nat.le_refl _) (by have h1 := block_lt Q.out.blk; omega))⟩
end
end Go.Proofs.YtbnbofooofedkaaDoor
