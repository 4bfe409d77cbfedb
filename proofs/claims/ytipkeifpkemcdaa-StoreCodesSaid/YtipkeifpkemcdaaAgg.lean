/- Whole structs, loaded, stored, made: laws over any program. -/
import Derived.Test.YtipkeifpkemcdaaMem
import Derived.Laws.Rows
import Derived.Deep.WholeRow
import Derived.Deep.MidRow
import Derived.Deep.DeepCutAuto
import Derived.Deep.CutBlock
import Derived.WalkLawsBesides
namespace Go.Proofs.Ytipkeifpkemcdaa
open Go.RowKit
set_option linter.unusedVariables false
set_option linter.unusedSimpArgs false

section
variable {P : Program} {w : World}

/-- Cells written one behind another. -/
def setSeg (C : Array Value) : Nat → List Value → Array Value
  | _, [] => C
  | o, v :: r => setSeg (C.setIfInBounds o v) (o + 1) r
theorem setSeg_size : ∀ (vs : List Value) (o : Nat) (C : Array Value), (setSeg C o vs).size = C.size
  | [], _, _ => rfl
  | v :: r, o, C => by rw [setSeg, setSeg_size r]; simp
theorem setSeg_get : ∀ (vs : List Value) (o : Nat) (C : Array Value) (k : Nat), o + vs.length ≤ C.size → (setSeg C o vs)[k]? = if o ≤ k ∧ k < o + vs.length then vs[k - o]? else C[k]?
  | [], o, C, k, h => by simp only [setSeg, List.length_nil, Nat.add_zero]; rw [if_neg (by omega)]
  | v :: r, o, C, k, h => by
    simp only [List.length_cons] at h
    rw [setSeg, setSeg_get r (o + 1) _ k (by simp; omega)]
    simp only [List.length_cons]
    by_cases h1 : o + 1 ≤ k ∧ k < o + 1 + r.length
    · rw [if_pos h1, if_pos (by omega), show k - o = (k - (o + 1)) + 1 by omega, List.getElem?_cons_succ]
    · rw [if_neg h1]
      by_cases h2 : k = o
      · subst h2
        rw [if_pos (by omega), Nat.sub_self, List.getElem?_cons_zero]
        have hk : k < C.size := by omega
        simp [hk]
      · rw [if_neg (by omega), Array.getElem?_setIfInBounds_ne (by omega)]
theorem setSeg_all (C cs : Array Value) (h : C.size = cs.size) : setSeg C 0 cs.toList = cs := by
  refine Array.ext (by rw [setSeg_size, h]) fun k h1 h2 => ?_
  have := setSeg_get cs.toList 0 C k (by simp [h])
  rw [if_pos (by simp; exact h2)] at this
  rw [Array.getElem?_eq_getElem h1] at this
  simp at this
  rw [Array.getElem?_eq_getElem h2] at this
  exact Option.some.inj this
theorem setCells_block {b : Nat} {T : TypeId} {fr : Nat × Nat} : ∀ (vs : List Value) (o : Nat) (C : Array Value) (w : World), w.heap[b]? = some (.cells C T fr) → (w.setCells b o vs).heap[b]? = some (.cells (setSeg C o vs) T fr)
  | [], _, _, _, h => h
  | v :: r, o, C, w, h => setCells_block r (o + 1) _ _ (block_setCell h v)
theorem setCells_chg {b : Nat} {F : List Nat} {a : World} : ∀ (vs : List Value) (o : Nat) (w : World), Chg F a w → (b ∈ F ∨ a.heap.size ≤ b) → Chg F a (w.setCells b o vs)
  | [], _, _, h, _ => h
  | v :: r, o, w, h, hb => setCells_chg r (o + 1) _ (h.setCell hb v) hb

/-- A whole struct is stored over a block of its own. -/
theorem wp_store_obj {o : Oper} {a : Act} {K : Act → World → Prop} {Q : Exit → Act → World → Prop} (ty : TypeId) (x y : Operand) (ho : o.op = .store ty x y)
    (b : Nat) (hx : a.eval x = .pointer (some ⟨b, 0, none⟩)) (cs : Array Value) (hy : a.eval y = .agg cs) (old : Array Value) (T : TypeId) (hb : w.heap[b]? = some (.cells old T (0, 0))) (hsz : old.size = cs.size)
    (hi : (P.info? ty).map (·.size) = some cs.size) (h1 : cs.all (·.oneCell') = true)
    (h : ∀ w', w'.heap[b]? = some (.cells cs T (0, 0)) → Chg [b] w w' → w'.heap.size = w.heap.size → K (a.put o.dst undef) w') : o.wp P a w K Q := by
  refine wp_store_mid ty x y ho b 0 cs hx hy (fun j hj => ?_) hi h1 (h _ ?_ ?_ ?_)
  · rw [Nat.zero_add]
    refine ⟨?_, frozen_of_block hb⟩
    rw [cell_of_block (v := old[j]'(by omega)) hb (Array.getElem?_eq_getElem (by omega))]; rfl
  · rw [setCells_block cs.toList 0 old w hb, setSeg_all old cs hsz]
  · exact setCells_chg _ _ _ (Chg.refl _ _) (.inl (by simp))
  · have : ∀ (vs : List Value) (o : Nat) (w : World), (w.setCells b o vs).heap.size = w.heap.size := by
      intro vs
      induction vs with
      | nil => intro o w; rfl
      | cons v r ih => intro o w; rw [World.setCells, ih]; simp [World.setCell]
    exact this _ _ _
theorem wpList_store_obj {ops : Array Oper} {rest : List Oper} {o : Oper} {a : Act} {Q : Exit → Act → World → Prop} (hgd : o.guard = none) (ty : TypeId) (x y : Operand) (ho : o.op = .store ty x y)
    (b : Nat) (hx : a.eval x = .pointer (some ⟨b, 0, none⟩)) (cs : Array Value) (hy : a.eval y = .agg cs) (old : Array Value) (T : TypeId) (hb : w.heap[b]? = some (.cells old T (0, 0))) (hsz : old.size = cs.size)
    (hi : (P.info? ty).map (·.size) = some cs.size) (h1 : cs.all (·.oneCell') = true)
    (h : ∀ w', w'.heap[b]? = some (.cells cs T (0, 0)) → Chg [b] w w' → w'.heap.size = w.heap.size → wpList P ops Q rest (a.put o.dst undef) w') : wpList P ops Q (o :: rest) a w :=
  wpList_plain hgd fun _ hK => wp_store_obj ty x y ho b hx cs hy old T hb hsz hi h1 fun w' h2 h3 h4 => hK _ _ (h w' h2 h3 h4)

/-- A new variable, all zero. -/
theorem wp_alloc_obj {o : Oper} {a : Act} {K : Act → World → Prop} {Q : Exit → Act → World → Prop} (ty : TypeId) (ho : o.op = .alloc ty) (z : Array Value) (hz : (P.info? ty).map (·.zero) = some (some (.agg z)))
    (h : K (a.put o.dst (.pointer (some ⟨w.heap.size, 0, none⟩))) (w.alloc (.cells z ty))) : o.wp P a w K Q := by
  have hz' : (zeroValue ty).run P w = .ok (.agg z) w := by
    cases hq : P.info? ty with
    | none => simp [hq] at hz
    | some i =>
      have : i.zero = some (.agg z) := by simpa [hq] using hz
      simp [zeroValue, typeInfo, hq, this]
  unfold Oper.wp execOp
  simp only [ho, Instr.alloc, Sem.run_bind, hz', Result.andThen_ok, newVar, newRow, Value.cells, run_newObj_alloc, Sem.run_pure]
  exact h
theorem wpList_alloc_obj {ops : Array Oper} {rest : List Oper} {o : Oper} {a : Act} {Q : Exit → Act → World → Prop} (hgd : o.guard = none) (ty : TypeId) (ho : o.op = .alloc ty) (z : Array Value) (hz : (P.info? ty).map (·.zero) = some (some (.agg z)))
    (h : wpList P ops Q rest (a.put o.dst (.pointer (some ⟨w.heap.size, 0, none⟩))) (w.alloc (.cells z ty))) : wpList P ops Q (o :: rest) a w :=
  wpList_plain hgd fun _ hK => wp_alloc_obj ty ho z hz (hK _ _ h)

/-- A struct or a row out of its parts. -/
theorem wp_build_obj {o : Oper} {a : Act} {K : Act → World → Prop} {Q : Exit → Act → World → Prop} (ty : TypeId) (ps : Array (Nat × Operand)) (ho : o.op = .build ty ps) (qs : Array (Nat × Value)) (hq : (ps.map fun (i, x) => (i, a.eval x)) = qs)
    (v : Value) (hv : (Instr.build ty qs).run P w = .ok v w) (h : K (a.put o.dst v) w) : o.wp P a w K Q := by
  unfold Oper.wp execOp
  simp only [ho, hq, Sem.run_bind, hv, Result.andThen_ok, Sem.run_pure]
  exact h
theorem wpList_build_obj {ops : Array Oper} {rest : List Oper} {o : Oper} {a : Act} {Q : Exit → Act → World → Prop} (hgd : o.guard = none) (ty : TypeId) (ps : Array (Nat × Operand)) (ho : o.op = .build ty ps) (qs : Array (Nat × Value)) (hq : (ps.map fun (i, x) => (i, a.eval x)) = qs)
    (v : Value) (hv : (Instr.build ty qs).run P w = .ok v w) (h : wpList P ops Q rest (a.put o.dst v) w) : wpList P ops Q (o :: rest) a w :=
  wpList_plain hgd fun _ hK => wp_build_obj ty ps ho qs hq v hv (hK _ _ h)
/-- the loads and stores behind a guard that says yes -/
theorem wpList_load_on {ops : Array Oper} {rest : List Oper} {o : Oper} {a : Act} {Q : Exit → Act → World → Prop} (hgd : Region.wanted o (yielded ops a.tmps) = true) (ty : TypeId) (x : Operand) (ho : o.op = .load ty x)
    (g : Nat) (hx : a.eval x = .pointer (some ⟨g, 0, none⟩)) (t : TypeId) (cs : Array Value) (fr : Nat × Nat) (d : TypeDesc) (hg : w.heap[g]? = some (.cells cs t fr))
    (hu : P.underlying ty = some d) (hd : (match d with | .struct _ | .array _ _ => true | _ => false) = true) (hi : (P.info? ty).map (·.size) = some cs.size)
    (h : wpList P ops Q rest (a.put o.dst (.agg cs)) w) : wpList P ops Q (o :: rest) a w :=
  wpList_step fun K hK => by rw [if_pos hgd]; exact wp_load_row ty x ho g hx t cs fr d hg hu hd hi (hK _ _ h)
/-- A field of one cell, of a struct's value. -/
theorem run_field_cell {T : TypeId} {fs : Array Field} (ht : P.underlying T = some (.struct fs)) (k : Nat) {f : Field} (hf : fs[k]? = some f) {d : TypeDesc} (hd : P.underlying f.type = some d) (hn : TypeDesc.isRow d = false) (cs : Array Value) (v : Value) (hc : cs[f.offset]? = some v) (w : World) :
    (Instr.field T (.agg cs) k).run P w = .ok v w := by
  have hagg : (isAgg f.type).run P w = .ok false w := by
    unfold isAgg
    rw [Sem.run_bind, run_underlying hd w]
    cases d <;> simp_all
  simp [Instr.field, run_underlying ht, hf, part, Sem.run_bind, hagg, asAgg, hc]
theorem wpList_load_mid_on {ops : Array Oper} {rest : List Oper} {op : Oper} {a : Act} {Q : Exit → Act → World → Prop} (hgd : Region.wanted op (yielded ops a.tmps) = true) (ty : TypeId) (x : Operand) (ho : op.op = .load ty x)
    (b o : Nat) (hx : a.eval x = .pointer (some ⟨b, o, none⟩)) (cs : List Value) (d : TypeDesc) (hc : w.rangeAt b o cs)
    (hu : P.underlying ty = some d) (hd : d.isRow = true) (hi : (P.info? ty).map (·.size) = some cs.length)
    (h : wpList P ops Q rest (a.put op.dst (.agg cs.toArray)) w) : wpList P ops Q (op :: rest) a w :=
  wpList_step fun K hK => by rw [if_pos hgd]; exact wp_load_mid ty x ho b o hx cs d hc hu hd hi (hK _ _ h)
/-- A row is equal to itself where each of its elements is. -/
theorem run_equalIn_array_same (d : Nat) {t e : TypeId} {len n : Nat} (xs : Array Value) (ht : P.underlying t = some (.array len e)) (hs : ∀ w, (sizeOf e).run P w = .ok n w)
    (x : Nat → Value) (hp : ∀ i, i < len → ∀ w, (part e xs (i * n)).run P w = .ok (x i) w) (h : ∀ i, i < len → ∀ w, (Op.equalIn d e (x i) (x i)).run P w = .ok true w) (w : World) :
    (Op.equalIn (d + 1) t (.agg xs) (.agg xs)).run P w = .ok true w := by
  simp only [Op.equalIn, Sem.run_bind, run_underlying ht, Result.andThen_ok, hs]
  have key : ∀ l : List Nat, (∀ i ∈ l, i < len) → ∀ w : World, (forIn l ((none, ()) : Option Bool × Unit) fun i __s => (do
      let a ← part e xs (i * n)
      let b ← part e xs (i * n)
      let r ← Op.equalIn d e a b
      if (!r) = true then pure (ForInStep.done (some false, ())) else pure (ForInStep.yield (none, ())) : Sem _)).run P w = .ok (none, ()) w := by
    intro l
    induction l with
    | nil => intro _ w; simp
    | cons i l ih =>
      intro hl w
      have hi := hl i (by simp)
      simp only [List.forIn_cons, Sem.run_bind, hp i hi, h i hi, Result.andThen_ok, Bool.not_true, Bool.false_eq_true, if_false, Sem.run_pure]
      exact ih (fun j hj => hl j (by simp [hj])) w
  rw [Std.Legacy.Range.forIn_eq_forIn_range']
  rw [key _ (fun i hi => by simp [List.mem_range'] at hi; omega) w]
  simp
/-- One element of a row's value. -/
theorem run_index_row {T e : TypeId} {len : Nat} (ht : P.underlying T = some (.array len e)) (hs : ∀ w, (sizeOf e).run P w = .ok 1 w) {d : TypeDesc} (hd : P.underlying e = some d) (hn : TypeDesc.isRow d = false)
    (cs : Array Value) (k : Nat) (v : Value) (hk : k < len) (hv : cs[k]? = some v) (w : World) : (Instr.index T (.agg cs) (.int .i64 (k : Int))).run P w = .ok v w := by
  have hagg : (isAgg e).run P w = .ok false w := by
    unfold isAgg
    rw [Sem.run_bind, run_underlying hd w]
    cases d <;> simp_all
  have h1 : (0 : Int) ≤ k ∧ (k : Int) < len := by omega
  simp [Instr.index, asIntOf, run_underlying ht, Sem.run_bind, hs, part, hagg, hv, hk]
theorem wp_index_row {o : Oper} {a : Act} {K : Act → World → Prop} {Q : Exit → Act → World → Prop} {T e : TypeId} {len : Nat} (x y : Operand) (ho : o.op = .index T x y) (ht : P.underlying T = some (.array len e)) (hs : ∀ w, (sizeOf e).run P w = .ok 1 w) {d : TypeDesc} (hd : P.underlying e = some d) (hn : TypeDesc.isRow d = false)
    (cs : Array Value) (hx : a.eval x = .agg cs) (z : Int) (hy : a.eval y = .int .i64 z) (k : Nat) (hz : z = k) (v : Value) (hk : k < len) (hv : cs[k]? = some v) (h : K (a.put o.dst v) w) : o.wp P a w K Q := by
  unfold Oper.wp execOp
  subst hz
  simp only [ho, hx, hy, Sem.run_bind, run_index_row ht hs hd hn cs k v hk hv, Result.andThen_ok, Sem.run_pure]
  exact h
theorem wpList_index_row {ops : Array Oper} {rest : List Oper} {o : Oper} {a : Act} {Q : Exit → Act → World → Prop} (hgd : o.guard = none) {T e : TypeId} {len : Nat} (x y : Operand) (ho : o.op = .index T x y) (ht : P.underlying T = some (.array len e)) (hs : ∀ w, (sizeOf e).run P w = .ok 1 w) {d : TypeDesc} (hd : P.underlying e = some d) (hn : TypeDesc.isRow d = false)
    (cs : Array Value) (hx : a.eval x = .agg cs) (z : Int) (hy : a.eval y = .int .i64 z) (k : Nat) (hz : z = k) (v : Value) (hk : k < len) (hv : cs[k]? = some v) (h : wpList P ops Q rest (a.put o.dst v) w) : wpList P ops Q (o :: rest) a w :=
  wpList_plain hgd fun _ hK => wp_index_row x y ho ht hs hd hn cs hx z hy k hz v hk hv (hK _ _ h)
end
end Go.Proofs.Ytipkeifpkemcdaa
