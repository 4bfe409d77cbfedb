/- Memory predicates and small laws over any program: byte slices that read as a list of bytes. -/
import Derived.WalkKit
import Derived.WalkSpells
import Derived.Laws.AppendOwnNone
import Derived.Lib.SlBytesConst
namespace Go.Proofs.Ytdhcfikjopbegaa
open Go.RowKit
set_option linter.unusedVariables false
set_option linter.unusedSimpArgs false

/-- A fact kept from the walk. -/
theorem hid {p : Prop} (h : p) : Hid p := h

/-- A byte as a value. -/
def B8 (c : UInt8) : Value := .int .u8 (c.toNat : Int)

theorem B8_one (l : List UInt8) : ∀ u ∈ l.map B8, u.oneCell' = true := by
  intro u hu
  obtain ⟨c, _, rfl⟩ := List.mem_map.1 hu
  rfl

/-- The slice '.slice a n c' reads in 'w' as the bytes l. -/
structure RdB (w : World) (a : Option Addr) (n : Nat) (l : List UInt8) : Prop where
  len : l.length = n
  cell : ∀ j, j < n → ∃ b off, a = some ⟨b, off, none⟩ ∧ ∀ i, i < n → w.cell? ⟨b, off + i, none⟩ = some (B8 (l.getD i 0))

theorem RdB.nil (w : World) (a : Option Addr) : RdB w a 0 [] := ⟨rfl, fun j h => absurd h (Nat.not_lt_zero _)⟩

theorem RdB.empty {w : World} {a : Option Addr} {l : List UInt8} (h : RdB w a 0 l) : l = [] := List.eq_nil_of_length_eq_zero h.len

/-- Behind a step that keeps the old blocks. -/
theorem RdB.below {w w' : World} {a : Option Addr} {n : Nat} {l : List UInt8} (h : RdB w a n l) (hb : Below w.heap.size w w') : RdB w' a n l :=
  ⟨h.len, fun j hj => let ⟨b, off, ha, hc⟩ := h.cell j hj; ⟨b, off, ha, fun i hi => cell_later hb (hc i hi)⟩⟩

theorem RdB.same {w w' : World} {a : Option Addr} {n : Nat} {l : List UInt8} (h : RdB w a n l) (hc' : ∀ p, w'.cell? p = w.cell? p) : RdB w' a n l :=
  ⟨h.len, fun j hj => let ⟨b, off, ha, hc⟩ := h.cell j hj; ⟨b, off, ha, fun i hi => by rw [hc']; exact hc i hi⟩⟩

/-- A cut of the front. -/
theorem RdB.take {w : World} {a : Option Addr} {n : Nat} {l : List UInt8} (h : RdB w a n l) {k : Nat} (hk : k ≤ n) : RdB w a k (l.take k) := by
  refine ⟨by rw [List.length_take, h.len]; omega, fun j hj => ?_⟩
  obtain ⟨b, off, ha, hc⟩ := h.cell j (by omega)
  refine ⟨b, off, ha, fun i hi => ?_⟩
  rw [hc i (by omega)]
  simp only [List.getD_eq_getElem?_getD, List.getElem?_take, if_pos hi]

theorem addr_add (b off j : Nat) : (⟨b, off, none⟩ : Addr).add j = ⟨b, off + j, none⟩ := by
  unfold Addr.add; split <;> simp_all

/-- A row of the call's own reads as its bytes. -/
theorem RdB.of_own {w : World} {base : Nat} {e : TypeId} {a : Option Addr} {n c : Nat} {l : List UInt8} (h : w.ownsRow base e 1 (.slice a n c) n (l.map B8)) : RdB w a n l := by
  have hlen : l.length = n := by simpa using h.1
  refine ⟨hlen, fun j hj => ?_⟩
  rcases h.2 with ⟨hv, h0⟩ | ⟨g, cap, cur, hv, hr⟩
  · omega
  · simp only [Value.slice.injEq] at hv
    obtain ⟨rfl, _, rfl⟩ := hv
    refine ⟨g, 0, rfl, fun i hi => ?_⟩
    have hcell := h.cells (g := g) rfl i (B8 (l.getD i 0)) (by
      rw [List.getElem?_map, List.getD_eq_getElem?_getD, List.getElem?_eq_getElem (by omega)]; rfl)
    rw [addr_add] at hcell
    exact hcell

theorem ownB_len {w : World} {base : Nat} {e : TypeId} {v : Value} {n : Nat} {l : List UInt8} (h : w.ownsRow base e 1 v n (l.map B8)) : l.length = n := by simpa using h.1
theorem ownB_cell {w : World} {base g cap : Nat} {e : TypeId} {n : Nat} {l : List UInt8} (h : w.ownsRow base e 1 (.slice (some ⟨g, 0, none⟩) n cap) n (l.map B8)) (k : Nat) (hk : k < n) :
    w.cell? ⟨g, k, none⟩ = some (B8 (l.getD k 0)) := by
  have hl := ownB_len h
  rw [h.cellAt k (by omega), List.getElem?_map, List.getD_eq_getElem?_getD, List.getElem?_eq_getElem (by omega)]; rfl
theorem ownB_set {w : World} {base g cap : Nat} {e : TypeId} {n : Nat} {l : List UInt8} (h : w.ownsRow base e 1 (.slice (some ⟨g, 0, none⟩) n cap) n (l.map B8)) (k : Nat) (c : UInt8) :
    (w.setCell ⟨g, k, none⟩ (B8 c)).ownsRow base e 1 (.slice (some ⟨g, 0, none⟩) n cap) n ((l.set k c).map B8) := by
  have := (h.stored k (B8 c)).1
  rwa [← List.map_set] at this
theorem made_bytes (n : Nat) : (madeCells (Value.int IntKind.u8 0).cells (n * 1)).toList = (List.replicate n (0 : UInt8)).map B8 := by
  rw [List.map_replicate, List.eq_replicate_iff]
  refine ⟨by simp [madeCells], fun b hb => ?_⟩
  simp [madeCells, Value.cells, Nat.mod_one] at hb
  exact hb.2.symm
theorem byte_of (z : Int) (h0 : 0 ≤ z) (h1 : z < 256) : ∃ c : UInt8, Value.int .u8 z = B8 c :=
  ⟨UInt8.ofNat z.toNat, by unfold B8; rw [UInt8.toNat_ofNat_of_lt' (by show _ < 256; omega)]; congr 1; omega⟩

theorem own_slice {w : World} {base : Nat} {e : TypeId} {size : Nat} {a : Option Addr} {n c : Nat} {xs : List Value} (h : w.ownsRow base e size (.slice a n c) n xs) : n ≤ c ∧ (a = none → c = 0) ∧ (1 ≤ n → ∃ g, a = some ⟨g, 0, none⟩ ∧ base ≤ g ∧ g < w.heap.size) := by
  rcases h.2 with ⟨hv, h0⟩ | ⟨g, cap, cur, hv, hg, hh, hnc, _⟩
  · simp only [Value.slice.injEq] at hv
    obtain ⟨rfl, rfl, rfl⟩ := hv
    exact ⟨Nat.le_refl _, fun _ => rfl, fun h => by omega⟩
  · simp only [Value.slice.injEq] at hv
    obtain ⟨rfl, _, rfl⟩ := hv
    exact ⟨hnc, fun h => (Option.some_ne_none _ h).elim, fun _ => ⟨g, rfl, hg, (Array.getElem?_eq_some_iff.1 hh).1⟩⟩
theorem ofInt_u8 (c : UInt8) : BitVec.ofInt IntKind.u8.bits (c.toNat : Int) = c.toBitVec := by
  show BitVec.ofInt 8 (c.toNat : Int) = c.toBitVec
  rw [BitVec.ofInt_natCast]
  exact BitVec.eq_of_toNat_eq (by rw [BitVec.toNat_ofNat]; exact Nat.mod_eq_of_lt c.toNat_lt)
theorem bits_xor8 (c d : UInt8) : bits .xor .u8 (c.toNat : Int) (d.toNat : Int) = ((c ^^^ d).toNat : Int) := by
  unfold bits
  rw [ofInt_u8, ofInt_u8]
  have h := (c ^^^ d).toNat_lt
  rw [IntKind.wrap_u8]
  show ((c.toBitVec ^^^ d.toBitVec).toNat : Int) % 256 = ((c ^^^ d).toNat : Int)
  have e : (c.toBitVec ^^^ d.toBitVec).toNat = (c ^^^ d).toNat := rfl
  rw [e]; omega

/-- What the append law asks of the source. -/
theorem RdB.news {w : World} {a : Addr} {n : Nat} {l : List UInt8} (h : RdB w (some a) n l) : ∀ j u, (l.map B8)[j]? = some u → w.cell? (a.add j) = some u := by
  intro j u hu
  rw [List.getElem?_map] at hu
  have hj : j < l.length := by
    rcases Nat.lt_or_ge j l.length with h' | h'
    · exact h'
    · rw [List.getElem?_eq_none h'] at hu; cases hu
  obtain ⟨b, off, ha, hc⟩ := h.cell j (h.len ▸ hj)
  cases ha
  rw [addr_add, hc j (h.len ▸ hj), ← hu, List.getElem?_eq_getElem hj, List.getD_eq_getElem?_getD, List.getElem?_eq_getElem hj]
  rfl

/-- A new block of bytes reads as them. -/
theorem RdB.new (w : World) (l : List UInt8) (C : Array Value) (e : TypeId) (fr : Nat × Nat) (hC : C = (l.map B8).toArray) (n : Nat) (hn : l.length = n) (b : Nat) (hb : b = w.heap.size) : RdB (w.alloc (.cells C e fr)) (some ⟨b, 0, none⟩) n l := by
  subst hb
  refine ⟨hn, fun j hj => ⟨w.heap.size, 0, rfl, fun i hi => ?_⟩⟩
  have hh : (w.alloc (.cells C e fr)).heap[w.heap.size]? = some (.cells C e fr) := by
    show (w.heap.push (.cells C e fr))[w.heap.size]? = _
    simp
  unfold World.cell?
  simp only [hh, Nat.zero_add]
  rw [hC]
  simp only [Option.isSome_none, Bool.false_eq_true, if_false, List.getElem?_toArray, List.getElem?_map, List.getD_eq_getElem?_getD]
  rw [List.getElem?_eq_getElem (by omega)]; rfl

/-- A slice of bytes that came in. -/
def ArgB (w : World) (v : Value) (l : List UInt8) : Prop := ∃ a n c, v = .slice a n c ∧ RdB w a n l ∧ n ≤ c ∧ c ≤ 140737488355328 ∧ (a = none → c = 0)

section
variable {P : Program}
/-- 'append(v, x...)', v a row of bytes of the call's own, x any bytes. -/
theorem run_append_bytes (w : World) (base : Nat) (t ty e : TypeId) (i : TypeInfo) (z : Value) (ht : P.underlying t = some (.slice e)) (hi : P.info? e = some i) (hz : i.zero = some z)
    (hsize : i.size = 1) (hby : i.bytes = 1) (hzs : z.cells.size = 1) (v : Value) (n : Nat) (xs : List UInt8) (hown : w.ownsRow base e 1 v n (xs.map B8))
    (a : Option Addr) (m c : Nat) (l : List UInt8) (hx : RdB w a m l) (hc : a = none → c = 0) (hbytes : n + m ≤ 140737488355328) (hbase : base ≤ w.heap.size) :
    ∃ v' w', (Builtin.append_ #[t, t] ty #[v, .slice a m c]).run P w = .ok v' w' ∧ w'.ownsRow base e 1 v' (n + m) ((xs ++ l).map B8) ∧ w.grownBy w' v.ownBlock := by
  cases a with
  | some a =>
    obtain ⟨v', w', h1, h2, h3, _⟩ := run_append_own w base t ty e i z 1 1 ht hi hz hsize hby hzs (by decide) v n (xs.map B8) hown a m c (l.map B8) (by simp [hx.len]) hx.news (B8_one l) (by unfold maxLen; omega) (by omega) hbase
    exact ⟨v', w', h1, by rw [List.map_append]; exact h2, h3⟩
  | none =>
    obtain rfl := hc rfl
    have hm : m = 0 := by
      rcases Nat.eq_zero_or_pos m with h | h
      · exact h
      · obtain ⟨b, off, ha, _⟩ := hx.cell 0 h; cases ha
    subst hm
    obtain rfl := hx.empty
    have hrun := run_append_owned_none (P := P) (w := w) base t ty e i 1 ht hi v n (xs.map B8) hown
    exact ⟨v, w, hrun, by simpa using hown, World.grownBy.refl _ _⟩

theorem wpList_append_bytes {w : World} {ops : Array Oper} {rest : List Oper} {o : Oper} {a : Act} {Q : Exit → Act → World → Prop} (hgd : o.guard = none) (s x : Operand) (t : TypeId)
    (ho : o.op = .call { callee := .builtin .append, args := #[s, x], argTypes := #[t, t] })
    (base : Nat) (e : TypeId) (i : TypeInfo) (z : Value) (ht : P.underlying t = some (.slice e)) (hi : P.info? e = some i) (hz : i.zero = some z)
    (hsize : i.size = 1) (hby : i.bytes = 1) (hzs : z.cells.size = 1) (v : Value) (n : Nat) (xs : List UInt8) (hs : a.eval s = v) (hown : w.ownsRow base e 1 v n (xs.map B8))
    (ad : Option Addr) (m c : Nat) (l : List UInt8) (hx : a.eval x = .slice ad m c) (hr : RdB w ad m l) (hc : ad = none → c = 0) (hbytes : n + m ≤ 140737488355328) (hbase : base ≤ w.heap.size)
    (h : ∀ a' c' w', w'.ownsRow base e 1 (.slice a' (n + m) c') (n + m) ((xs ++ l).map B8) → w.grownBy w' v.ownBlock → wpList P ops Q rest (a.put o.dst (.slice a' (n + m) c')) w') : wpList P ops Q (o :: rest) a w := by
  refine wpList_plain hgd fun K hK => ?_
  obtain ⟨v', w', hrun, h2, h3⟩ := run_append_bytes (P := P) w base t o.type e i z ht hi hz hsize hby hzs v n xs hown ad m c l hr hc hbytes hbase
  have hv : ∃ a' c', v' = .slice a' (n + m) c' := by
    rcases h2.2 with ⟨hv, h0⟩ | ⟨g, cap, cur, hv, _⟩
    · exact ⟨none, 0, by rw [hv, h0]⟩
    · exact ⟨_, _, hv⟩
  obtain ⟨a', c', rfl⟩ := hv
  unfold Oper.wp execOp
  simp only [ho, resolve, invoke, builtin, Sem.run_bind, Sem.run_pure, Result.andThen_ok, List.map_toArray, List.map_cons, List.map_nil, hs, hx, hrun]
  exact hK _ _ (h a' c' w' h2 h3)

/-- 'b[:k]' of any slice. -/
theorem run_slice_front (t e : TypeId) (size : Nat) (ht : P.underlying t = some (.slice e)) (hs : ∀ w, (sizeOf e).run P w = .ok size w) (a : Option Addr) (n c k : Nat) (hk : k ≤ c) (w : World) :
    (Instr.slice t (.slice a n c) none (some (.int .i64 (k : Int))) none).run P w = .ok (.slice a k c) w := by
  have ha : a.map (fun x => x.add 0) = a := by
    cases a with
    | none => rfl
    | some x => simp [Addr.add]
  have h1 : (0 : Int) ≤ (k : Int) ∧ (k : Int) ≤ (c : Int) := by omega
  simp [Instr.slice, run_underlying ht, Instr.sliceBounds, Instr.sliceBound, asIntOf, h1, hs, ha, hk]
end
end Go.Proofs.Ytdhcfikjopbegaa
