/- append(b, make([]byte, n)...): gc hands the builtin the number. -/
import Derived.Test.YtipkeifpkemcdaaMem
import Derived.Lib.AppendZeros
namespace Go.Proofs.Ytipkeifpkemcdaa
open Go.RowKit
set_option linter.unusedVariables false
set_option linter.unusedSimpArgs false
theorem zeroCells_bytes (n : Nat) : (Builtin.zeroCells (Value.int .u8 0).cells n).toList = (List.replicate n (0 : UInt8)).map B8 := by
  rw [List.map_replicate, List.eq_replicate_iff]
  refine ⟨by simp [Builtin.zeroCells, Value.cells], fun b hb => ?_⟩
  simp [Builtin.zeroCells, Value.cells, Nat.mod_one] at hb
  exact hb.2.symm
theorem zeroCells_one (n : Nat) : ∀ u ∈ (Builtin.zeroCells (Value.int .u8 0).cells n).toList, u.oneCell' = true := by
  rw [zeroCells_bytes]; exact B8_one _
theorem setRow_same (w : World) (g : Nat) (cur : Array Value) (e : TypeId) (h : w.heap[g]? = some (.cells cur e (0, 0))) : w.setRow g cur = w := by
  have hm : ∀ f : Obj → Obj, f (.cells cur e (0, 0)) = .cells cur e (0, 0) → w.heap.modify g f = w.heap := fun f hf => by
    refine Array.ext (by simp) fun k h1 h2 => ?_
    rw [Array.getElem_modify]
    split
    · rename_i hk
      subst hk
      have : w.heap[g] = .cells cur e (0, 0) := by have := (Array.getElem?_eq_some_iff.1 h).2; exact this
      rw [this, hf]
    · rfl
  unfold World.setRow
  rw [hm _ rfl]
theorem wrap00 : IntKind.i64.wrap 0 = 0 := by rw [IntKind.wrap_i64]; rfl
section
variable {P : Program}
theorem run_append_zeros (w : World) (base : Nat) (t tn ty e : TypeId) (i : TypeInfo) (kn k : IntKind) (ht : P.underlying t = some (.slice e)) (htn : P.underlying tn = some (.int kn)) (hi : P.info? e = some i) (hz : i.zero = some (.int .u8 0))
    (hsize : i.size = 1) (hby : i.bytes = 1) (v : Value) (n : Nat) (xs : List UInt8) (hown : w.ownsRow base e 1 v n (xs.map B8))
    (m : Nat) (hbytes : n + m ≤ 140737488355328) (hbase : base ≤ w.heap.size) :
    ∃ v' w', (Builtin.append_ #[t, tn] ty #[v, .int k m]).run P w = .ok v' w' ∧ w'.ownsRow base e 1 v' (n + m) ((xs ++ List.replicate m 0).map B8) ∧ w.grownBy w' v.ownBlock := by
  have hwm : IntKind.i64.wrap (m : Int) = m := by rw [IntKind.wrap_i64]; omega
  have hneg : ¬ ((m : Int) < 0) := by omega
  have h48i : ¬ (281474976710656 < (m : Int)) := by omega
  have hzl := zeroCells_bytes m
  have hzs : (Builtin.zeroCells (Value.int .u8 0).cells m).toList.length = m := by rw [hzl]; simp
  have hlen : ((xs ++ List.replicate m 0).map B8).length = (n + m) * 1 := by have := hown.1; simp at this ⊢; omega
  have grown : ∀ (old : Nat), old < n + m → ∀ (row : Option Nat),
      (w.drew.alloc (.cells ((xs.map B8).toArray ++ Builtin.zeroCells (Value.int .u8 0).cells m ++ Builtin.zeroCells (Value.int .u8 0).cells (grownCap w (n + m) old e - (n + m))) e)).ownsRow base e 1
        (.slice (some ⟨w.heap.size, 0, none⟩) (n + m) (grownCap w (n + m) old e)) (n + m) ((xs ++ List.replicate m 0).map B8) ∧
      w.grownBy (w.drew.alloc (.cells ((xs.map B8).toArray ++ Builtin.zeroCells (Value.int .u8 0).cells m ++ Builtin.zeroCells (Value.int .u8 0).cells (grownCap w (n + m) old e - (n + m))) e)) row := by
    intro old ho row
    have hge := grownCap_ge w (n + m) old e
    have hcm : grownCap w (n + m) old e ≤ maxLen := grownCap_le_maxLen w (n + m) old e (by unfold maxLen; omega)
    refine ⟨⟨hlen, .inr ⟨w.heap.size, _, _, rfl, hbase, heap_alloc_new w.drew _, hge, hcm, ?_, ?_⟩⟩, ⟨rfl, rfl, rfl, by simp, fun k hk _ => heap_alloc_old w.drew _ hk⟩⟩
    · have := hown.1
      simp only [Array.size_append, List.size_toArray, size_zeroCells, Value.cells, Array.size_singleton, Nat.mul_one] at this ⊢
      simp at this ⊢
      omega
    · simp only [Array.toList_append]
      rw [hzl, List.map_append, List.take_append_of_le_length (by have := hown.1; simp at this ⊢; omega), List.take_of_length_le (by have := hown.1; simp at this ⊢; omega)]
  rcases hown.2 with ⟨rfl, rfl⟩ | ⟨g, cap, cur, rfl, hbg, hg, hnc, hcm, hcs, htake⟩
  · have hx : xs = [] := by have := hown.1; simpa using this
    subst hx
    by_cases hm : m = 0
    · subst hm
      refine ⟨.slice none 0 0, w, ?_, World.ownsRow_nil w base e 1, ⟨rfl, rfl, rfl, Nat.le_refl _, fun _ _ _ => rfl⟩⟩
      simp [Builtin.append_, run_underlying ht, run_underlying htn, sizeOf, typeInfo, hi, asInt, asIntOf, wrap00, hby]
    · have hr := Go.Lib.run_append_nil_zeros (P := P) w t tn ty e i (.int .u8 0) k kn ht htn hi hz m (by omega) (by omega) (by omega) (by rw [hby]; omega)
      have hgr := grown 0 (by omega) (Value.ownBlock (.slice none 0 0))
      simp only [Nat.zero_add, List.nil_append, List.map_nil, Array.empty_append] at hgr ⊢
      exact ⟨_, _, hr, hgr.1, hgr.2⟩
  · by_cases hroom : n + m ≤ cap
    · have hfit : n * 1 + (Builtin.zeroCells (Value.int .u8 0).cells m).toList.length ≤ cur.size := by rw [hzs, hcs]; omega
      have hst := run_storeCells_at P g (n * 1) e (Builtin.zeroCells (Value.int .u8 0).cells m).toList 0 cur w hg (by simpa using hfit) (zeroCells_one m)
      simp only [Nat.add_zero] at hst
      have hr : (Builtin.append_ #[t, tn] ty #[.slice (some ⟨g, 0, none⟩) n cap, .int k m]).run P w = .ok (.slice (some ⟨g, 0, none⟩) (n + m) cap) (w.setRow g (cur.toList.take (n * 1) ++ (Builtin.zeroCells (Value.int .u8 0).cells m).toList ++ cur.toList.drop (n * 1 + (Builtin.zeroCells (Value.int .u8 0).cells m).toList.length)).toArray) := by
        by_cases hm : m = 0
        · subst hm
          have hset : w.setRow g (cur.toList.take (n * 1) ++ (Builtin.zeroCells (Value.int .u8 0).cells 0).toList ++ cur.toList.drop (n * 1 + (Builtin.zeroCells (Value.int .u8 0).cells 0).toList.length)).toArray = w := by
            have : (Builtin.zeroCells (Value.int .u8 0).cells 0).toList = [] := by rw [zeroCells_bytes]; rfl
            rw [this]
            simp only [List.append_nil, List.length_nil, Nat.add_zero, List.take_append_drop, Array.toArray_toList]
            exact setRow_same w g cur e hg
          rw [hset]
          simp [Builtin.append_, run_underlying ht, run_underlying htn, sizeOf, typeInfo, zeroValue, hi, hz, asInt, asIntOf, wrap00, hby, hsize, hnc, Addr.add_lit, storeCells]
        · have hst2 := hst
          simp only [Nat.mul_one] at hst2
          simp [Builtin.append_, run_underlying ht, run_underlying htn, sizeOf, typeInfo, zeroValue, hi, hz, asInt, asIntOf, hwm, hneg, h48i, hby, hsize, hroom, hm, Addr.add_lit, hst2]
      refine ⟨_, _, hr, ⟨hlen, .inr ⟨g, cap, _, rfl, hbg, setRow_heap w g cur _ e _ hg, hroom, hcm, ?_, ?_⟩⟩, ⟨rfl, rfl, rfl, by simp, fun k _ hk => setRow_other w g k _ (fun e => hk (by simp [Value.ownBlock, e]))⟩⟩
      · simp only [List.size_toArray, List.length_append, List.length_take, List.length_drop, Array.length_toList, hzs]
        omega
      · rw [htake, hzl, ← List.map_append, ← hlen]
        exact List.take_left
    · have holds : ∀ j u, (xs.map B8)[j]? = some u → w.cell? ((⟨g, 0, none⟩ : Addr).add j) = some u := hown.cells (g := g) rfl
      have hn : ¬ (n + m ≤ cap) := hroom
      have hm : m ≠ 0 := by omega
      have h63' : ¬ (9223372036854775807 < ((n : Int) + (m : Int))) := by omega
      have hfit : Builtin.nextslicecap (n + m) cap * 1 ≤ 281474976710656 := growslice_fits (by omega) (by omega)
      have h48' : ¬ (281474976710656 < Builtin.nextslicecap (n + m) cap) := by omega
      have hfo := run_firstCells_some (P := P) w.drew 1 n ⟨g, 0, none⟩ n cap (xs.map B8) (by have := hown.1; simpa using this) (by simpa using holds)
      have hr : (Builtin.append_ #[t, tn] ty #[.slice (some ⟨g, 0, none⟩) n cap, .int k m]).run P w =
          .ok (.slice (some ⟨w.heap.size, 0, none⟩) (n + m) (grownCap w (n + m) cap e))
            (w.drew.alloc (.cells ((xs.map B8).toArray ++ Builtin.zeroCells (Value.int .u8 0).cells m ++ Builtin.zeroCells (Value.int .u8 0).cells (grownCap w (n + m) cap e - (n + m))) e)) := by
        simp [Builtin.append_, run_underlying ht, run_underlying htn, sizeOf, typeInfo, zeroValue, hi, hz, asInt, asIntOf, hwm, hneg, h48i, hby, hsize, hn, hm, h63', h48', Question.forced, hfo, newRow, grownCap]
      have hgr := grown cap (by omega) (Value.ownBlock (.slice (some ⟨g, 0, none⟩) n cap))
      exact ⟨_, _, hr, hgr.1, hgr.2⟩
/-- The operation. -/
theorem wpList_append_zeros {w : World} {ops : Array Oper} {rest : List Oper} {o : Oper} {a : Act} {Q : Exit → Act → World → Prop} (hgd : o.guard = none) (s x : Operand) (t tn : TypeId)
    (ho : o.op = .call { callee := .builtin .append, args := #[s, x], argTypes := #[t, tn] })
    (base : Nat) (e : TypeId) (i : TypeInfo) (kn k : IntKind) (ht : P.underlying t = some (.slice e)) (htn : P.underlying tn = some (.int kn)) (hi : P.info? e = some i) (hz : i.zero = some (.int .u8 0))
    (hsize : i.size = 1) (hby : i.bytes = 1) (v : Value) (n : Nat) (xs : List UInt8) (hs : a.eval s = v) (hown : w.ownsRow base e 1 v n (xs.map B8))
    (m : Nat) (hx : a.eval x = .int k m) (hbytes : n + m ≤ 140737488355328) (hbase : base ≤ w.heap.size)
    (h : ∀ a' c' w', w'.ownsRow base e 1 (.slice a' (n + m) c') (n + m) ((xs ++ List.replicate m 0).map B8) → w.grownBy w' v.ownBlock → wpList P ops Q rest (a.put o.dst (.slice a' (n + m) c')) w') : wpList P ops Q (o :: rest) a w := by
  obtain ⟨v', w', hrun, h2, h3⟩ := run_append_zeros (P := P) w base t tn o.type e i kn k ht htn hi hz hsize hby v n xs hown m hbytes hbase
  have hv : ∃ a' c', v' = .slice a' (n + m) c' := by
    rcases h2.2 with ⟨hv, h0⟩ | ⟨g, cap, cur, hv, _⟩
    · exact ⟨none, 0, by rw [hv, h0]⟩
    · exact ⟨_, _, hv⟩
  obtain ⟨a', c', rfl⟩ := hv
  exact Go.Lib.wpList_append_run w hgd s x t tn ho v (.int k m) hs hx _ w' hrun (h a' c' w' h2 h3)
end
end Go.Proofs.Ytipkeifpkemcdaa
