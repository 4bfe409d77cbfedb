/- Memory predicates and small laws over any program: byte slices that read as a list of bytes. -/
import Derived.WalkKit
import Derived.WalkSpells
import Derived.Laws.AppendOwnNone
import Derived.Lib.SlBytesConst
import Derived.Deep.QuietTactic
import Derived.BigQuiet
import Derived.Deep.RegionLaw
namespace Go.Proofs.Ytipkeifpkemcdaa
open Go.RowKit
set_option linter.unusedVariables false
set_option linter.unusedSimpArgs false

/-- A fact kept from the walk. -/
theorem hid {p : Prop} (h : p) : Hid p := h

/-- A byte as a value. -/
def B8 (c : UInt8) : Value := .int .u8 (c.toNat : Int)

theorem B8_one (l : List UInt8) : ∀ u ∈ l.map B8, u.oneCell' = true := by
  intro u hu
  obtain ⟨c, _, rfl⟩ := List.mem_map.1 hu
  rfl

/-- The slice '.slice a n c' reads in 'w' as the bytes l. -/
structure RdB (w : World) (a : Option Addr) (n : Nat) (l : List UInt8) : Prop where
  len : l.length = n
  cell : ∀ j, j < n → ∃ b off, a = some ⟨b, off, none⟩ ∧ ∀ i, i < n → w.cell? ⟨b, off + i, none⟩ = some (B8 (l.getD i 0))

theorem RdB.nil (w : World) (a : Option Addr) : RdB w a 0 [] := ⟨rfl, fun j h => absurd h (Nat.not_lt_zero _)⟩

theorem RdB.empty {w : World} {a : Option Addr} {l : List UInt8} (h : RdB w a 0 l) : l = [] := List.eq_nil_of_length_eq_zero h.len

/-- Behind a step that keeps the old blocks. -/
theorem RdB.below {w w' : World} {a : Option Addr} {n : Nat} {l : List UInt8} (h : RdB w a n l) (hb : Below w.heap.size w w') : RdB w' a n l :=
  ⟨h.len, fun j hj => let ⟨b, off, ha, hc⟩ := h.cell j hj; ⟨b, off, ha, fun i hi => cell_later hb (hc i hi)⟩⟩

theorem RdB.same {w w' : World} {a : Option Addr} {n : Nat} {l : List UInt8} (h : RdB w a n l) (hc' : ∀ p, w'.cell? p = w.cell? p) : RdB w' a n l :=
  ⟨h.len, fun j hj => let ⟨b, off, ha, hc⟩ := h.cell j hj; ⟨b, off, ha, fun i hi => by rw [hc']; exact hc i hi⟩⟩

/-- A cut of the front. -/
theorem RdB.take {w : World} {a : Option Addr} {n : Nat} {l : List UInt8} (h : RdB w a n l) {k : Nat} (hk : k ≤ n) : RdB w a k (l.take k) := by
  refine ⟨by rw [List.length_take, h.len]; omega, fun j hj => ?_⟩
  obtain ⟨b, off, ha, hc⟩ := h.cell j (by omega)
  refine ⟨b, off, ha, fun i hi => ?_⟩
  rw [hc i (by omega)]
  simp only [List.getD_eq_getElem?_getD, List.getElem?_take, if_pos hi]

theorem addr_add (b off j : Nat) : (⟨b, off, none⟩ : Addr).add j = ⟨b, off + j, none⟩ := by
  unfold Addr.add; split <;> simp_all

/-- A row of the call's own reads as its bytes. -/
theorem RdB.of_own {w : World} {base : Nat} {e : TypeId} {a : Option Addr} {n c : Nat} {l : List UInt8} (h : w.ownsRow base e 1 (.slice a n c) n (l.map B8)) : RdB w a n l := by
  have hlen : l.length = n := by simpa using h.1
  refine ⟨hlen, fun j hj => ?_⟩
  rcases h.2 with ⟨hv, h0⟩ | ⟨g, cap, cur, hv, hr⟩
  · omega
  · simp only [Value.slice.injEq] at hv
    obtain ⟨rfl, _, rfl⟩ := hv
    refine ⟨g, 0, rfl, fun i hi => ?_⟩
    have hcell := h.cells (g := g) rfl i (B8 (l.getD i 0)) (by
      rw [List.getElem?_map, List.getD_eq_getElem?_getD, List.getElem?_eq_getElem (by omega)]; rfl)
    rw [addr_add] at hcell
    exact hcell

theorem ownB_len {w : World} {base : Nat} {e : TypeId} {v : Value} {n : Nat} {l : List UInt8} (h : w.ownsRow base e 1 v n (l.map B8)) : l.length = n := by simpa using h.1
theorem ownB_cell {w : World} {base g cap : Nat} {e : TypeId} {n : Nat} {l : List UInt8} (h : w.ownsRow base e 1 (.slice (some ⟨g, 0, none⟩) n cap) n (l.map B8)) (k : Nat) (hk : k < n) :
    w.cell? ⟨g, k, none⟩ = some (B8 (l.getD k 0)) := by
  have hl := ownB_len h
  rw [h.cellAt k (by omega), List.getElem?_map, List.getD_eq_getElem?_getD, List.getElem?_eq_getElem (by omega)]; rfl
theorem ownB_set {w : World} {base g cap : Nat} {e : TypeId} {n : Nat} {l : List UInt8} (h : w.ownsRow base e 1 (.slice (some ⟨g, 0, none⟩) n cap) n (l.map B8)) (k : Nat) (c : UInt8) :
    (w.setCell ⟨g, k, none⟩ (B8 c)).ownsRow base e 1 (.slice (some ⟨g, 0, none⟩) n cap) n ((l.set k c).map B8) := by
  have := (h.stored k (B8 c)).1
  rwa [← List.map_set] at this
theorem made_bytes (n : Nat) : (madeCells (Value.int IntKind.u8 0).cells (n * 1)).toList = (List.replicate n (0 : UInt8)).map B8 := by
  rw [List.map_replicate, List.eq_replicate_iff]
  refine ⟨by simp [madeCells], fun b hb => ?_⟩
  simp [madeCells, Value.cells, Nat.mod_one] at hb
  exact hb.2.symm
theorem byte_of (z : Int) (h0 : 0 ≤ z) (h1 : z < 256) : ∃ c : UInt8, Value.int .u8 z = B8 c :=
  ⟨UInt8.ofNat z.toNat, by unfold B8; rw [UInt8.toNat_ofNat_of_lt' (by show _ < 256; omega)]; congr 1; omega⟩

theorem own_slice {w : World} {base : Nat} {e : TypeId} {size : Nat} {a : Option Addr} {n c : Nat} {xs : List Value} (h : w.ownsRow base e size (.slice a n c) n xs) : n ≤ c ∧ (a = none → c = 0) ∧ (1 ≤ n → ∃ g, a = some ⟨g, 0, none⟩ ∧ base ≤ g ∧ g < w.heap.size) := by
  rcases h.2 with ⟨hv, h0⟩ | ⟨g, cap, cur, hv, hg, hh, hnc, _⟩
  · simp only [Value.slice.injEq] at hv
    obtain ⟨rfl, rfl, rfl⟩ := hv
    exact ⟨Nat.le_refl _, fun _ => rfl, fun h => by omega⟩
  · simp only [Value.slice.injEq] at hv
    obtain ⟨rfl, _, rfl⟩ := hv
    exact ⟨hnc, fun h => (Option.some_ne_none _ h).elim, fun _ => ⟨g, rfl, hg, (Array.getElem?_eq_some_iff.1 hh).1⟩⟩
theorem ofInt_u8 (c : UInt8) : BitVec.ofInt IntKind.u8.bits (c.toNat : Int) = c.toBitVec := by
  show BitVec.ofInt 8 (c.toNat : Int) = c.toBitVec
  rw [BitVec.ofInt_natCast]
  exact BitVec.eq_of_toNat_eq (by rw [BitVec.toNat_ofNat]; exact Nat.mod_eq_of_lt c.toNat_lt)
theorem bits_xor8 (c d : UInt8) : bits .xor .u8 (c.toNat : Int) (d.toNat : Int) = ((c ^^^ d).toNat : Int) := by
  unfold bits
  rw [ofInt_u8, ofInt_u8]
  have h := (c ^^^ d).toNat_lt
  rw [IntKind.wrap_u8]
  show ((c.toBitVec ^^^ d.toBitVec).toNat : Int) % 256 = ((c ^^^ d).toNat : Int)
  have e : (c.toBitVec ^^^ d.toBitVec).toNat = (c ^^^ d).toNat := rfl
  rw [e]; omega

/-- What the append law asks of the source. -/
theorem RdB.news {w : World} {a : Addr} {n : Nat} {l : List UInt8} (h : RdB w (some a) n l) : ∀ j u, (l.map B8)[j]? = some u → w.cell? (a.add j) = some u := by
  intro j u hu
  rw [List.getElem?_map] at hu
  have hj : j < l.length := by
    rcases Nat.lt_or_ge j l.length with h' | h'
    · exact h'
    · rw [List.getElem?_eq_none h'] at hu; cases hu
  obtain ⟨b, off, ha, hc⟩ := h.cell j (h.len ▸ hj)
  cases ha
  rw [addr_add, hc j (h.len ▸ hj), ← hu, List.getElem?_eq_getElem hj, List.getD_eq_getElem?_getD, List.getElem?_eq_getElem hj]
  rfl

/-- A new block of bytes reads as them. -/
theorem RdB.new (w : World) (l : List UInt8) (C : Array Value) (e : TypeId) (fr : Nat × Nat) (hC : C = (l.map B8).toArray) (n : Nat) (hn : l.length = n) (b : Nat) (hb : b = w.heap.size) : RdB (w.alloc (.cells C e fr)) (some ⟨b, 0, none⟩) n l := by
  subst hb
  refine ⟨hn, fun j hj => ⟨w.heap.size, 0, rfl, fun i hi => ?_⟩⟩
  have hh : (w.alloc (.cells C e fr)).heap[w.heap.size]? = some (.cells C e fr) := by
    show (w.heap.push (.cells C e fr))[w.heap.size]? = _
    simp
  unfold World.cell?
  simp only [hh, Nat.zero_add]
  rw [hC]
  simp only [Option.isSome_none, Bool.false_eq_true, if_false, List.getElem?_toArray, List.getElem?_map, List.getD_eq_getElem?_getD]
  rw [List.getElem?_eq_getElem (by omega)]; rfl

/-- A slice of bytes that came in. -/
def ArgB (w : World) (v : Value) (l : List UInt8) : Prop := ∃ a n c, v = .slice a n c ∧ RdB w a n l ∧ n ≤ c ∧ c ≤ 140737488355328 ∧ (a = none → c = 0)

section
variable {P : Program}
/-- 'append(v, x...)', v a row of bytes of the call's own, x any bytes. -/
theorem run_append_bytes (w : World) (base : Nat) (t ty e : TypeId) (i : TypeInfo) (z : Value) (ht : P.underlying t = some (.slice e)) (hi : P.info? e = some i) (hz : i.zero = some z)
    (hsize : i.size = 1) (hby : i.bytes = 1) (hzs : z.cells.size = 1) (v : Value) (n : Nat) (xs : List UInt8) (hown : w.ownsRow base e 1 v n (xs.map B8))
    (a : Option Addr) (m c : Nat) (l : List UInt8) (hx : RdB w a m l) (hc : a = none → c = 0) (hbytes : n + m ≤ 140737488355328) (hbase : base ≤ w.heap.size) :
    ∃ v' w', (Builtin.append_ #[t, t] ty #[v, .slice a m c]).run P w = .ok v' w' ∧ w'.ownsRow base e 1 v' (n + m) ((xs ++ l).map B8) ∧ w.grownBy w' v.ownBlock := by
  cases a with
  | some a =>
    obtain ⟨v', w', h1, h2, h3, _⟩ := run_append_own w base t ty e i z 1 1 ht hi hz hsize hby hzs (by decide) v n (xs.map B8) hown a m c (l.map B8) (by simp [hx.len]) hx.news (B8_one l) (by unfold maxLen; omega) (by omega) hbase
    exact ⟨v', w', h1, by rw [List.map_append]; exact h2, h3⟩
  | none =>
    obtain rfl := hc rfl
    have hm : m = 0 := by
      rcases Nat.eq_zero_or_pos m with h | h
      · exact h
      · obtain ⟨b, off, ha, _⟩ := hx.cell 0 h; cases ha
    subst hm
    obtain rfl := hx.empty
    have hrun := run_append_owned_none (P := P) (w := w) base t ty e i 1 ht hi v n (xs.map B8) hown
    exact ⟨v, w, hrun, by simpa using hown, World.grownBy.refl _ _⟩

theorem wpList_append_bytes {w : World} {ops : Array Oper} {rest : List Oper} {o : Oper} {a : Act} {Q : Exit → Act → World → Prop} (hgd : o.guard = none) (s x : Operand) (t : TypeId)
    (ho : o.op = .call { callee := .builtin .append, args := #[s, x], argTypes := #[t, t] })
    (base : Nat) (e : TypeId) (i : TypeInfo) (z : Value) (ht : P.underlying t = some (.slice e)) (hi : P.info? e = some i) (hz : i.zero = some z)
    (hsize : i.size = 1) (hby : i.bytes = 1) (hzs : z.cells.size = 1) (v : Value) (n : Nat) (xs : List UInt8) (hs : a.eval s = v) (hown : w.ownsRow base e 1 v n (xs.map B8))
    (ad : Option Addr) (m c : Nat) (l : List UInt8) (hx : a.eval x = .slice ad m c) (hr : RdB w ad m l) (hc : ad = none → c = 0) (hbytes : n + m ≤ 140737488355328) (hbase : base ≤ w.heap.size)
    (h : ∀ a' c' w', w'.ownsRow base e 1 (.slice a' (n + m) c') (n + m) ((xs ++ l).map B8) → w.grownBy w' v.ownBlock → wpList P ops Q rest (a.put o.dst (.slice a' (n + m) c')) w') : wpList P ops Q (o :: rest) a w := by
  refine wpList_plain hgd fun K hK => ?_
  obtain ⟨v', w', hrun, h2, h3⟩ := run_append_bytes (P := P) w base t o.type e i z ht hi hz hsize hby hzs v n xs hown ad m c l hr hc hbytes hbase
  have hv : ∃ a' c', v' = .slice a' (n + m) c' := by
    rcases h2.2 with ⟨hv, h0⟩ | ⟨g, cap, cur, hv, _⟩
    · exact ⟨none, 0, by rw [hv, h0]⟩
    · exact ⟨_, _, hv⟩
  obtain ⟨a', c', rfl⟩ := hv
  unfold Oper.wp execOp
  simp only [ho, resolve, invoke, builtin, Sem.run_bind, Sem.run_pure, Result.andThen_ok, List.map_toArray, List.map_cons, List.map_nil, hs, hx, hrun]
  exact hK _ _ (h a' c' w' h2 h3)

/-- 'b[:k]' of any slice. -/
theorem run_slice_front (t e : TypeId) (size : Nat) (ht : P.underlying t = some (.slice e)) (hs : ∀ w, (sizeOf e).run P w = .ok size w) (a : Option Addr) (n c k : Nat) (hk : k ≤ c) (w : World) :
    (Instr.slice t (.slice a n c) none (some (.int .i64 (k : Int))) none).run P w = .ok (.slice a k c) w := by
  have ha : a.map (fun x => x.add 0) = a := by
    cases a with
    | none => rfl
    | some x => simp [Addr.add]
  have h1 : (0 : Int) ≤ (k : Int) ∧ (k : Int) ≤ (c : Int) := by omega
  simp [Instr.slice, run_underlying ht, Instr.sliceBounds, Instr.sliceBound, asIntOf, h1, hs, ha, hk]
end

/-! Footprints: F lists the blocks that may have turned. -/
structure Chg (F : List Nat) (w w' : World) : Prop where
  os : w'.os = w.os
  tape : w'.tape = w.tape
  output : w'.output = w.output
  size : w.heap.size ≤ w'.heap.size
  block : ∀ k, k < w.heap.size → k ∉ F → w'.heap[k]? = w.heap[k]?

/-- Of the blocks of F' each is of F, or new. -/
def Fresh (F F' : List Nat) (w : World) : Prop := ∀ k ∈ F', k ∈ F ∨ w.heap.size ≤ k
def Disj (F G : List Nat) : Prop := ∀ k, k ∈ F → k ∉ G

theorem Chg.refl (F : List Nat) (w : World) : Chg F w w := ⟨rfl, rfl, rfl, Nat.le_refl _, fun _ _ _ => rfl⟩
theorem Chg.trans {F F' : List Nat} {a b c : World} (h : Chg F a b) (k : Chg F' b c) (hf : Fresh F F' a) : Chg F a c :=
  ⟨k.os.trans h.os, k.tape.trans h.tape, k.output.trans h.output, Nat.le_trans h.size k.size, fun i hi hF =>
    (k.block i (Nat.lt_of_lt_of_le hi h.size) (fun hm => by rcases hf i hm with h' | h'; exact hF h'; omega)).trans (h.block i hi hF)⟩
theorem Chg.mono {F G : List Nat} {a b : World} (h : Chg F a b) (hs : ∀ k ∈ F, k ∈ G) : Chg G a b :=
  ⟨h.os, h.tape, h.output, h.size, fun i hi hG => h.block i hi (fun hF => hG (hs i hF))⟩
theorem Chg.below {F : List Nat} {w w' : World} {B : Nat} (h : Chg F w w') (hF : ∀ k ∈ F, B ≤ k) (hB : B ≤ w.heap.size) : Below B w w' :=
  ⟨h.os, h.tape, h.output, h.size, fun k hk => h.block k (by omega) (fun hm => by have := hF k hm; omega)⟩
theorem Chg.of_below {w w' : World} (h : Below w.heap.size w w') (F : List Nat) : Chg F w w' :=
  ⟨h.os, h.tape, h.output, h.size, fun k hk _ => h.block k hk⟩
theorem Chg.drew {F : List Nat} {a w : World} (h : Chg F a w) : Chg F a w.drew := ⟨h.os, h.tape, h.output, h.size, h.block⟩
theorem Chg.alloc {F : List Nat} {a w : World} (h : Chg F a w) (o : Obj) : Chg F a (w.alloc o) :=
  ⟨h.os, h.tape, h.output, by have := h.size; simp; omega, fun k hk hF => (Below.heap_alloc _ _ _ (by have := h.size; omega)).trans (h.block k hk hF)⟩
theorem Chg.setCell {F : List Nat} {a w : World} (h : Chg F a w) {p : Addr} (hp : p.block ∈ F ∨ a.heap.size ≤ p.block) (u : Value) : Chg F a (w.setCell p u) :=
  ⟨h.os, h.tape, h.output, by have := h.size; simp [World.setCell]; omega, fun k hk hF => (Below.heap_setCell _ _ _ _ (by rcases hp with h' | h'; intro e; subst e; exact hF h'; omega)).trans (h.block k hk hF)⟩
theorem Chg.grown {F : List Nat} {a w w' : World} {row : Option Nat} (h : Chg F a w) (hg : w.grownBy w' row) (hr : ∀ k, row = some k → k ∈ F ∨ a.heap.size ≤ k) : Chg F a w' :=
  ⟨hg.os.trans h.os, hg.tape.trans h.tape, hg.output.trans h.output, Nat.le_trans h.size hg.size, fun k hk hF =>
    (hg.block k (by have := h.size; omega) (fun e => by rcases hr k e.symm with h' | h'; exact hF h'; omega)).trans (h.block k hk hF)⟩
theorem Chg.cell {F : List Nat} {w w' : World} (h : Chg F w w') {p : Addr} {v : Value} (hv : w.cell? p = some v) (hF : p.block ∉ F) : w'.cell? p = some v :=
  (World.cell?_of_block (h.block p.block (World.block_lt_of_cell? w p hv) hF)).trans hv
theorem Chg.rdB {F : List Nat} {w w' : World} (h : Chg F w w') {a : Option Addr} {n : Nat} {l : List UInt8} (hr : RdB w a n l) (hF : ∀ b off sp, a = some ⟨b, off, sp⟩ → b ∉ F) : RdB w' a n l :=
  ⟨hr.len, fun j hj => let ⟨b, off, ha, hc⟩ := hr.cell j hj; ⟨b, off, ha, fun i hi => h.cell (hc i hi) (hF _ _ _ ha)⟩⟩
theorem Chg.owns {F : List Nat} {w w' : World} (h : Chg F w w') {base : Nat} {e : TypeId} {size : Nat} {v : Value} {n : Nat} {xs : List Value} (ho : w.ownsRow base e size v n xs) (hF : ∀ k, v.ownBlock = some k → k ∉ F) : w'.ownsRow base e size v n xs := by
  refine ⟨ho.1, ?_⟩
  rcases ho.2 with hn | ⟨g, cap, cur, rfl, hb, hgg, rest⟩
  · exact .inl hn
  · refine .inr ⟨g, cap, cur, rfl, hb, ?_, rest⟩
    rw [h.block g (Array.getElem?_eq_some_iff.1 hgg).1 (hF g rfl)]
    exact hgg
theorem ownsRow_base {w : World} {base base' : Nat} {e : TypeId} {size : Nat} {v : Value} {n : Nat} {xs : List Value} (h : w.ownsRow base e size v n xs) (hb : ∀ k, v.ownBlock = some k → base' ≤ k) : w.ownsRow base' e size v n xs := by
  refine ⟨h.1, ?_⟩
  rcases h.2 with hn | ⟨g, cap, cur, rfl, _, rest⟩
  · exact .inl hn
  · exact .inr ⟨g, cap, cur, rfl, hb g rfl, rest⟩

/-- A block of cells, all known. -/
theorem cell_of_block {w : World} {p j : Nat} {C : Array Value} {T : TypeId} {fr : Nat × Nat} (h : w.heap[p]? = some (.cells C T fr)) {v : Value} (hv : C[j]? = some v) : w.cell? ⟨p, j, none⟩ = some v := by
  simp [World.cell?, h, hv]
theorem frozen_of_block {w : World} {p j : Nat} {C : Array Value} {T : TypeId} (h : w.heap[p]? = some (.cells C T (0, 0))) : w.frozen? ⟨p, j, none⟩ = false := by
  simp [World.frozen?, h]
theorem block_setCell {w : World} {p j : Nat} {C : Array Value} {T : TypeId} {fr : Nat × Nat} (h : w.heap[p]? = some (.cells C T fr)) (v : Value) : (w.setCell ⟨p, j, none⟩ v).heap[p]? = some (.cells (C.setIfInBounds j v) T fr) := by
  simp [World.setCell, Array.getElem?_modify, h]
theorem block_setCell_other {w : World} {p q j : Nat} (h : q ≠ p) (v : Value) : (w.setCell ⟨p, j, none⟩ v).heap[q]? = w.heap[q]? := Below.heap_setCell _ _ _ _ h
theorem block_lt {w : World} {p : Nat} {o : Obj} (h : w.heap[p]? = some o) : p < w.heap.size := (Array.getElem?_eq_some_iff.1 h).1
theorem block_new (w : World) (o : Obj) : (w.alloc o).heap[w.heap.size]? = some o := by
  show (w.heap.push o)[w.heap.size]? = _
  simp

/-- The cells xs at a slice's address. -/
structure RdC (w : World) (a : Option Addr) (k : Nat) (xs : List Value) : Prop where
  len : xs.length = k
  cell : ∀ j, j < k → ∃ b off, a = some ⟨b, off, none⟩ ∧ ∀ (i : Nat) (u : Value), xs[i]? = some u → w.cell? ⟨b, off + i, none⟩ = some u
theorem RdC.nil (w : World) (a : Option Addr) : RdC w a 0 [] := ⟨rfl, fun j h => absurd h (Nat.not_lt_zero _)⟩
theorem RdC.news {w : World} {a : Addr} {k : Nat} {xs : List Value} (h : RdC w (some a) k xs) : ∀ j u, xs[j]? = some u → w.cell? (a.add j) = some u := by
  intro j u hu
  have hj : j < xs.length := (List.getElem?_eq_some_iff.1 hu).1
  obtain ⟨b, off, ha, hc⟩ := h.cell j (h.len ▸ hj)
  cases ha
  rw [addr_add]
  exact hc j u hu
theorem RdC.below {w w' : World} {a : Option Addr} {k : Nat} {xs : List Value} (h : RdC w a k xs) (hb : Below w.heap.size w w') : RdC w' a k xs :=
  ⟨h.len, fun j hj => let ⟨b, off, ha, hc⟩ := h.cell j hj; ⟨b, off, ha, fun i u hu => cell_later hb (hc i u hu)⟩⟩
theorem RdC.drew {w : World} {a : Option Addr} {k : Nat} {xs : List Value} (h : RdC w a k xs) : RdC w.drew a k xs := ⟨h.len, h.cell⟩
theorem RdB.drew {w : World} {a : Option Addr} {n : Nat} {l : List UInt8} (h : RdB w a n l) : RdB w.drew a n l := ⟨h.len, h.cell⟩
theorem cell_alloc {w : World} {a : Addr} {v : Value} (h : w.cell? a = some v) (o : Obj) : (w.alloc o).cell? a = some v := Lib.cell?_alloc_marked o h
theorem Chg.rdC {F : List Nat} {w w' : World} (h : Chg F w w') {a : Option Addr} {k : Nat} {xs : List Value} (hr : RdC w a k xs) (hF : ∀ b off sp, a = some ⟨b, off, sp⟩ → b ∉ F) : RdC w' a k xs :=
  ⟨hr.len, fun j hj => let ⟨b, off, ha, hc⟩ := hr.cell j hj; ⟨b, off, ha, fun i u hu => h.cell (hc i u hu) (hF _ _ _ ha)⟩⟩
theorem RdB.toC {w : World} {a : Option Addr} {n : Nat} {l : List UInt8} (h : RdB w a n l) : RdC w a n (l.map B8) := by
  refine ⟨by simp [h.len], fun j hj => ?_⟩
  obtain ⟨b, off, ha, hc⟩ := h.cell j hj
  refine ⟨b, off, ha, fun i u hu => ?_⟩
  have hi : i < l.length := by
    have := (List.getElem?_eq_some_iff.1 hu).1
    simpa using this
  rw [hc i (h.len ▸ hi), ← hu, List.getElem?_map, List.getD_eq_getElem?_getD, List.getElem?_eq_getElem hi]
  rfl
/-- A new block, read from its head. -/
theorem RdC.new (w : World) (C : Array Value) (e : TypeId) (fr : Nat × Nat) (xs : List Value) (hC : C.toList = xs) (k : Nat) (hk : xs.length = k) (b : Nat) (hb : b = w.heap.size) : RdC (w.alloc (.cells C e fr)) (some ⟨b, 0, none⟩) k xs := by
  subst hb
  refine ⟨hk, fun j hj => ⟨_, 0, rfl, fun i u hu => ?_⟩⟩
  rw [Nat.zero_add]
  refine cell_of_block (block_new w _) ?_
  rw [← hC] at hu
  simpa using hu

section
variable {P : Program}
/-- append onto a row of the call's own: the value, the cells, and whose block it is. -/
theorem run_append_c (w : World) (base : Nat) (t ty e : TypeId) (i : TypeInfo) (z : Value) (size bytes : Nat) (ht : P.underlying t = some (.slice e)) (hi : P.info? e = some i) (hz : i.zero = some z)
    (hsize : i.size = size) (hby : i.bytes = bytes) (hzs : z.cells.size = size) (hsz : 0 < size) (v : Value) (n : Nat) (xs : List Value) (hown : w.ownsRow base e size v n xs)
    (a : Option Addr) (m c : Nat) (news : List Value) (hx : RdC w a (m * size) news) (h1 : ∀ u ∈ news, u.oneCell' = true) (hc : a = none → c = 0) (h63 : n + m ≤ maxLen) (hbytes : (n + m) * bytes ≤ 140737488355328) (hbase : base ≤ w.heap.size) :
    ∃ a' c' w', (Builtin.append_ #[t, t] ty #[v, .slice a m c]).run P w = .ok (.slice a' (n + m) c') w' ∧ w'.ownsRow base e size (.slice a' (n + m) c') (n + m) (xs ++ news) ∧ w.grownBy w' v.ownBlock ∧
      ((Value.slice a' (n + m) c').ownBlock = v.ownBlock ∨ ∀ k, (Value.slice a' (n + m) c').ownBlock = some k → w.heap.size ≤ k) := by
  have form : ∀ (v' : Value) (w' : World), w'.ownsRow base e size v' (n + m) (xs ++ news) → ∃ a' c', v' = .slice a' (n + m) c' := by
    intro v' w' h2
    rcases h2.2 with ⟨hv, h0⟩ | ⟨g, cap, cur, hv, _⟩
    · exact ⟨none, 0, by rw [hv, h0]⟩
    · exact ⟨_, _, hv⟩
  cases a with
  | some a =>
    obtain ⟨v', w', hr, h2, h3, _⟩ := run_append_own w base t ty e i z size bytes ht hi hz hsize hby hzs hsz v n xs hown a m c news hx.len hx.news h1 h63 hbytes hbase
    obtain ⟨a', c', rfl⟩ := form v' w' h2
    refine ⟨a', c', w', hr, h2, h3, ?_⟩
    rcases hown.2 with ⟨rfl, rfl⟩ | ⟨g, cap, cur, rfl, hbg, hg, hnc, hcm, hcs, htake⟩
    · have hxs : xs = [] := List.eq_nil_of_length_eq_zero (by simpa using hown.1)
      subst hxs
      obtain ⟨v2, w2, hr2, h22, _⟩ := run_append_own w w.heap.size t ty e i z size bytes ht hi hz hsize hby hzs hsz (.slice none 0 0) 0 [] (World.ownsRow_nil w _ e size) a m c news hx.len hx.news h1 h63 hbytes (Nat.le_refl _)
      have he := hr.symm.trans hr2
      simp only [Result.ok.injEq] at he
      obtain ⟨rfl, rfl⟩ := he
      exact .inr fun k hk => (h22.lt k hk).1
    · by_cases hroom : n + m ≤ cap
      · subst hsize
        have hr2 := run_append_room (P := P) w t ty e i ht hi g n cap cur hg a m c news hx.len hx.news h1 hroom (by rw [hx.len, hcs, ← Nat.add_mul]; exact Nat.mul_le_mul_right _ hroom)
        have he := hr.symm.trans hr2
        simp only [Result.ok.injEq, Value.slice.injEq] at he
        left
        rw [he.1.1]; rfl
      · have holds : ∀ j u, xs[j]? = some u → w.cell? ((⟨g, 0, none⟩ : Addr).add j) = some u := hown.cells (g := g) rfl
        obtain ⟨v2, w2, hr2, h22, _⟩ := run_append_arg_grows (P := P) w t ty e i z size bytes ht hi hz hsize hby hzs hsz ⟨g, 0, none⟩ n cap xs hown.1 holds a m c news hx.len hx.news (by omega) h63 hbytes
        have he := hr.symm.trans hr2
        simp only [Result.ok.injEq] at he
        obtain ⟨rfl, rfl⟩ := he
        exact .inr fun k hk => (h22.lt k hk).1
  | none =>
    obtain rfl := hc rfl
    have hm : m = 0 := by
      rcases Nat.eq_zero_or_pos m with h | h
      · exact h
      · obtain ⟨b, off, ha, _⟩ := hx.cell 0 (Nat.mul_pos h hsz); cases ha
    subst hm
    have hnews : news = [] := List.eq_nil_of_length_eq_zero (by simpa using hx.len)
    subst hnews
    have hrun := run_append_owned_none (P := P) (w := w) base t ty e i size ht hi v n xs hown
    obtain ⟨a', c', rfl⟩ := form v w (by simpa using hown)
    exact ⟨a', c', w, hrun, by simpa using hown, World.grownBy.refl _ _, .inl rfl⟩

/-- the same, met by the walk -/
theorem wpList_append_c {w : World} {ops : Array Oper} {rest : List Oper} {o : Oper} {a : Act} {Q : Exit → Act → World → Prop} (hgd : o.guard = none) (s x : Operand) (t : TypeId)
    (ho : o.op = .call { callee := .builtin .append, args := #[s, x], argTypes := #[t, t] })
    (base : Nat) (e : TypeId) (i : TypeInfo) (z : Value) (size bytes : Nat) (ht : P.underlying t = some (.slice e)) (hi : P.info? e = some i) (hz : i.zero = some z)
    (hsize : i.size = size) (hby : i.bytes = bytes) (hzs : z.cells.size = size) (hsz : 0 < size) (v : Value) (n : Nat) (xs : List Value) (hs : a.eval s = v) (hown : w.ownsRow base e size v n xs)
    (ad : Option Addr) (m c : Nat) (news : List Value) (hx : a.eval x = .slice ad m c) (hr : RdC w ad (m * size) news) (h1 : ∀ u ∈ news, u.oneCell' = true) (hc : ad = none → c = 0) (h63 : n + m ≤ maxLen) (hbytes : (n + m) * bytes ≤ 140737488355328) (hbase : base ≤ w.heap.size)
    (h : ∀ a' c' w', w'.ownsRow base e size (.slice a' (n + m) c') (n + m) (xs ++ news) → w.grownBy w' v.ownBlock →
      ((Value.slice a' (n + m) c').ownBlock = v.ownBlock ∨ ∀ k, (Value.slice a' (n + m) c').ownBlock = some k → w.heap.size ≤ k) → wpList P ops Q rest (a.put o.dst (.slice a' (n + m) c')) w') : wpList P ops Q (o :: rest) a w := by
  refine wpList_plain hgd fun K hK => ?_
  obtain ⟨a', c', w', hrun, h2, h3, h4⟩ := run_append_c (P := P) w base t o.type e i z size bytes ht hi hz hsize hby hzs hsz v n xs hown ad m c news hr h1 hc h63 hbytes hbase
  unfold Oper.wp execOp
  simp only [ho, resolve, invoke, builtin, Sem.run_bind, Sem.run_pure, Result.andThen_ok, List.map_toArray, List.map_cons, List.map_nil, hs, hx, hrun]
  exact hK _ _ (h a' c' w' h2 h3 h4)

/-- the same, as a step of a region that draws -/
theorem step_append_c {ops : Array Oper} {o : Oper} {a : Act} {w : World} {K : Act → World → Prop} {Q : Exit → Act → World → Prop} {E : Prop}
    (hg : o.guard = none) (s x : Operand) (t : TypeId) (ho : o.op = .call { callee := .builtin .append, args := #[s, x], argTypes := #[t, t] })
    (base : Nat) (e : TypeId) (i : TypeInfo) (z : Value) (size bytes : Nat) (ht : P.underlying t = some (.slice e)) (hi : P.info? e = some i) (hz : i.zero = some z)
    (hsize : i.size = size) (hby : i.bytes = bytes) (hzs : z.cells.size = size) (hsz : 0 < size) (v : Value) (n : Nat) (xs : List Value) (hs : a.eval s = v) (hown : w.ownsRow base e size v n xs)
    (ad : Option Addr) (m c : Nat) (news : List Value) (hx : a.eval x = .slice ad m c) (hr : RdC w ad (m * size) news) (h1 : ∀ u ∈ news, u.oneCell' = true) (hc : ad = none → c = 0) (h63 : n + m ≤ maxLen) (hbytes : (n + m) * bytes ≤ 140737488355328) (hbase : base ≤ w.heap.size)
    (h : ∀ a' c' w', w'.ownsRow base e size (.slice a' (n + m) c') (n + m) (xs ++ news) → w.grownBy w' v.ownBlock →
      ((Value.slice a' (n + m) c').ownBlock = v.ownBlock ∨ ∀ k, (Value.slice a' (n + m) c').ownBlock = some k → w.heap.size ≤ k) → K (a.put o.dst (.slice a' (n + m) c')) w') :
    if Region.wanted o (yielded ops a.tmps) = true then Oper.wp P o a w K Q else E := by
  have hw : Region.wanted o (yielded ops a.tmps) = true := by simp [Region.wanted, hg]
  rw [if_pos hw]
  obtain ⟨a', c', w', hrun, h2, h3, h4⟩ := run_append_c (P := P) w base t o.type e i z size bytes ht hi hz hsize hby hzs hsz v n xs hown ad m c news hr h1 hc h63 hbytes hbase
  unfold Oper.wp execOp
  simp only [ho, resolve, invoke, builtin, Sem.run_bind, Sem.run_pure, Result.andThen_ok, List.map_toArray, List.map_cons, List.map_nil, hs, hx, hrun]
  exact h a' c' w' h2 h3 h4
end

/-- 'b[k:]' of any slice. -/
theorem run_slice_back {P : Program} (t e : TypeId) (size : Nat) (ht : P.underlying t = some (.slice e)) (hs : ∀ w, (sizeOf e).run P w = .ok size w) (a : Option Addr) (n c k : Nat) (hk : k ≤ n) (w : World) :
    (Instr.slice t (.slice a n c) (some (.int .i64 (k : Int))) none none).run P w = .ok (.slice (if c = k then a else a.map (·.add (k * size))) (n - k) (c - k)) w := by
  have h1 : (0 : Int) ≤ (k : Int) ∧ (k : Int) ≤ (n : Int) := by omega
  simp [Instr.slice, run_underlying ht, Instr.sliceBounds, Instr.sliceBound, asIntOf, h1, hs, hk]
/-- What is behind the front reads as such. -/
theorem drop_facts {w : World} {a a2 : Option Addr} {n c k : Nat} {l : List UInt8} (hr : RdB w a n l) (hk : k ≤ n) (hnc : n ≤ c) (hnone : a = none → c = 0) (ha : (if c = k then a else a.map (·.add (k * 1))) = a2) :
    RdB w a2 (n - k) (l.drop k) ∧ (a2 = none → c - k = 0) ∧ (∀ b off sp, a2 = some ⟨b, off, sp⟩ → ∃ off' sp', a = some ⟨b, off', sp'⟩) ∧ a.map (·.block) = a2.map (·.block) := by
  have hblk : a.map (·.block) = a2.map (·.block) := by
    rw [← ha]
    split
    · rfl
    · cases a with
      | none => rfl
      | some x => simp [Addr.add]; split <;> rfl
  refine ⟨⟨by rw [List.length_drop, hr.len], fun j hj => ?_⟩, ?_, ?_, hblk⟩
  · have hck : ¬ c = k := by omega
    rw [if_neg hck] at ha
    obtain ⟨b, off, hab, hc⟩ := hr.cell 0 (by omega)
    subst hab
    refine ⟨b, off + k, ?_, fun i hi => ?_⟩
    · rw [← ha, Nat.mul_one, Option.map_some, addr_add]
    · rw [Nat.add_assoc, hc (k + i) (by omega)]
      simp [List.getD_eq_getElem?_getD]
  · intro h
    subst h
    have : a = none := by cases a with | none => rfl | some x => simp at hblk
    have := hnone this
    omega
  · intro b off sp h
    subst h
    cases a with
    | none => simp at hblk
    | some x => obtain ⟨b', off', sp'⟩ := x; simp at hblk; subst hblk; exact ⟨off', sp', rfl⟩

/-- A slice of any elements (k cells each) that came in; R: what an element's cells read as. -/
def ArgSl {α : Type} [Inhabited α] (k : Nat) (R : List Value → α → Prop) (w : World) (v : Value) (l : List α) : Prop :=
  ∃ a n c, v = .slice a n c ∧ l.length = n ∧ n ≤ c ∧ c ≤ 140737488355328 ∧ (a = none → c = 0) ∧
    ∀ j, j < n → ∃ b off cs, a = some ⟨b, off, none⟩ ∧ cs.length = k ∧ (∀ i, i < k → w.cell? ⟨b, off + j * k + i, none⟩ = cs[i]?) ∧ R cs (l.getD j default)

/-- 'string(b)' of bytes that read as l. -/
theorem run_bytes_str {P : Program} {w : World} {a : Option Addr} {n : Nat} {l : List UInt8} (h : RdB w a n l) (c : Nat) (src dst e : TypeId) (hs : P.underlying src = some (.slice e)) (he : P.underlying e = some (.int .u8)) (hd : P.underlying dst = some .string) :
    (convert src dst (.slice a n c)).run P w = .ok (.string ⟨l.toArray⟩) w := by
  rw [run_convert_bytes_string w src dst e a n c hs he hd]
  have hl : (l.map fun b : UInt8 => ((b.toNat : Nat) : Int)).foldl (fun (r : ByteArray) n => r.push (UInt8.ofNat n.toNat)) ByteArray.empty = ⟨l.toArray⟩ := by
    rw [foldl_push_bytes]
    simp [Function.comp_def]
  cases a with
  | none =>
    have h0 : n = 0 := by
      rcases Nat.eq_zero_or_pos n with h' | h'
      · exact h'
      · obtain ⟨b, off, hb, _⟩ := h.cell 0 h'; cases hb
    subst h0
    obtain rfl := h.empty
    rfl
  | some x =>
    have hload : (loadCells x n).run P w = .ok ((l.map fun b : UInt8 => ((b.toNat : Nat) : Int)).map (Value.int .u8)).toArray w := by
      have := run_loadCells_list (P := P) w x (l.map B8) (h.news)
      rw [List.length_map, h.len] at this
      rw [this, List.map_map]
      rfl
    rw [run_bytesToString w x n c _ hload, hl]

theorem Chg.drewN {F : List Nat} {a w : World} (h : Chg F a w) (n : Nat) : Chg F a (w.drewN n) := ⟨h.os, h.tape, h.output, h.size, h.block⟩
theorem quiet_pure {P : Program} {f : FuncId} {args : Array Value} {w : World} {n : Nat} {v : Value}
    (h : Calls P f args (w.drewN n) fun e w' => e = .returned v ∧ w.drewN n = w') : Calls P f args (w.drewN n) fun e w'' => e = .returned v ∧ ∃ m, w'' = w.drewN m :=
  h.mono fun _ _ ⟨he, hm⟩ => ⟨he, n, hm.symm⟩
end Go.Proofs.Ytipkeifpkemcdaa
