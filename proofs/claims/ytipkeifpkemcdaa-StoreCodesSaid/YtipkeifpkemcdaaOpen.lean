/- What an argument that came in reads as: openers for the laws' frames. -/
import Derived.Test.YtipkeifpkemcdaaRows
import Derived.Test.YtipkeifpkemcdaaMem
import Derived.ProofKit
import Derived.OpenShut
import Derived.ShutString
import Derived.ChangeOld
import Derived.SizedLaws
import Derived.JoinedCond
import Derived.Deep.CondSized
import Derived.Deep.Slices
namespace Go.Proofs.Ytipkeifpkemcdaa
open Go.ChangeShapes Go.WideShapes Go.ChangeAt Go.RowKit
set_option linter.unusedVariables false
set_option linter.unusedSimpArgs false
set_option maxRecDepth 100000

theorem own : ownKnob Try.prog.godebug = none := by kernel_rfl
theorem laidOut : laidOutB Try.prog = true := by kernel_rfl

section
variable {H : Type} {enc : TypeId × Value → H} {W : World} {base : Nat} {spare : Nat → Bool} {held : Bool}

theorem bulk_lits (k : IntKind) (zs : List Int) : Rows.uptoBulkAll (H := H) (lits k zs) = zs.length := by
  induction zs with
  | nil => rfl
  | cons z zs ih =>
    show Rows.uptoBulkAll (DataW.lit (Lit.int k z) :: lits k zs) = _
    simp only [Rows.uptoBulkAll, Rows.uptoBulk, ih, List.length_cons]
    omega
theorem lits_len (k : IntKind) (zs : List Int) : (lits (H := H) k zs).length = zs.length := by simp [lits]

theorem ints_bytes (zs : List Int) (h : ∀ n ∈ zs, (Lit.int .u8 n).wf = true) : ∃ l : List UInt8, l.length = zs.length ∧ ∀ i, i < zs.length → Value.int .u8 (zs.getD i 0) = B8 (l.getD i 0) := by
  refine ⟨zs.map (fun z => UInt8.ofNat z.toNat), by simp, fun i hi => ?_⟩
  have hb := bounds_u8 (h (zs[i]) (List.getElem_mem hi))
  rw [List.getD_eq_getElem?_getD, List.getD_eq_getElem?_getD, List.getElem?_map, List.getElem?_eq_getElem hi]
  simp only [Option.getD_some, Option.map_some]
  unfold B8
  rw [UInt8.toNat_ofNat_of_lt' (by show _ < 256; omega)]
  congr 1; omega

/-- a slice of bytes, read off its one cell -/
theorem core_argB {fuel : Nat} {cs : List Value} {d : DataW H} {p : List MemPlace}
    (hf : DataW.trod enc Try.prog W 0 (fun _ => true) held fuel 24 cs = some (d, p)) (hw : ∀ n ∈ d.weights Try.prog 24, n ≤ reachBytes) :
    ∃ v l, cs = [v] ∧ ArgB W v l ∧ l.length ≤ Rows.uptoBulk d := by
  rcases open_ints Try.underlying24 Try.underlying5 (by kernel_rfl) hf with ⟨hcs, hx⟩ | ⟨x, len, cap, zs, hcs, _, hl, hm, hz, hx, hcell, hwz⟩
  · exact ⟨_, [], hcs, ⟨none, 0, 0, rfl, RdB.nil _ _, Nat.le_refl _, by omega, fun _ => rfl⟩, by simp⟩
  · simp only [Prod.mk.injEq] at hx
    obtain ⟨rfl, _⟩ := hx
    have hz' : zs.length = cap := by simpa using hz
    obtain ⟨l, hll, hlv⟩ := ints_bytes zs hwz
    have hcap : cap ≤ 140737488355328 := by
      have h1 := hw ((lits (H := H) .u8 (zs.take len)).length + (lits (H := H) .u8 (zs.drop len)).length |> (· * Try.prog.bytesOf 5)) (by
        simp [DataW.weights, Try.underlying24])
      have hb1 : Try.prog.bytesOf 5 = 1 := by kernel_rfl
      rw [hb1] at h1
      simp only [lits_len, List.length_take, List.length_drop] at h1
      unfold reachBytes at h1
      omega
    refine ⟨_, l.take len, hcs, ⟨some x, len, cap, rfl, ⟨by rw [List.length_take]; omega, fun j hj => ?_⟩, hl, hcap, fun h => by cases h⟩, ?_⟩
    · have h0 := hcell j (by omega)
      obtain ⟨b, off, spot⟩ := x
      have hspot : spot = none := by
        have h00 := hcell 0 (by omega)
        simpa [Addr.add] using World.cell?_spot h00
      subst hspot
      refine ⟨b, off, rfl, fun i hi => ?_⟩
      have hc := hcell i (by omega)
      rw [addr_add] at hc
      rw [hc, hlv i (by omega)]
      simp only [List.getD_eq_getElem?_getD, List.getElem?_take, if_pos hi]
    · simp only [Rows.uptoBulk, bulk_lits, List.length_take, List.length_drop]
      omega

/-- a slice of bytes -/
theorem open_argB {b0 : Nat} {v : Value} {d : DataW H} {p : List MemPlace} (hval : Value.okWide Try.prog W .any b0 24 v)
    (h : DataW.Trod enc Try.prog W 0 (fun _ => true) held 24 v d p) (hw : ∀ n ∈ d.weights Try.prog 24, n ≤ reachBytes) :
    ∃ l, ArgB W v l ∧ l.length ≤ Rows.uptoBulk d := by
  obtain ⟨a0, len, cap, rfl⟩ := okWide_slice Try.underlying24 hval
  obtain ⟨fuel, hf⟩ := h
  obtain ⟨v, l, hcs, h1, h2⟩ := core_argB hf hw
  simp [Value.cells] at hcs
  subst hcs
  exact ⟨l, h1, h2⟩

theorem cells_of {w : World} {base : Nat} {a : Addr} {n : Nat} {cs : List Value} (h : w.cells? base a n = some cs) : cs.length = n ∧ ∀ i, i < n → w.cell? (a.add i) = cs[i]? := by
  unfold World.cells? at h
  split at h
  · have key : ∀ (l : List Nat) (cs : List Value), l.mapM (fun i => w.cell? (a.add i)) = some cs → cs.length = l.length ∧ ∀ (j i : Nat), l[j]? = some i → w.cell? (a.add i) = cs[j]? := by
      intro l
      induction l with
      | nil => intro cs h; simp at h; subst h; simp
      | cons x l ih =>
        intro cs h
        simp only [List.mapM_cons, Option.bind_eq_bind, Option.bind_eq_some_iff, Option.pure_def, Option.some.injEq] at h
        obtain ⟨v, hv, cs', hcs', rfl⟩ := h
        obtain ⟨h1, h2⟩ := ih cs' hcs'
        refine ⟨by simp [h1], fun j i hj => ?_⟩
        cases j with
        | zero => simp at hj; subst hj; simp [hv]
        | succ j => simp at hj ⊢; exact h2 j i hj
    obtain ⟨h1, h2⟩ := key _ _ h
    refine ⟨by simpa using h1, fun i hi => h2 i i (by simp [hi])⟩
  · cases h

theorem bulk_mem {d : DataW H} {l : List (DataW H)} (h : d ∈ l) : Rows.uptoBulk d ≤ Rows.uptoBulkAll l := by
  induction l with
  | nil => cases h
  | cons x r ih =>
    simp only [Rows.uptoBulkAll]
    cases List.mem_cons.1 h with
    | inl e => subst e; omega
    | inr e => have := ih e; omega
theorem bulk_one {d : DataW H} : 1 ≤ Rows.uptoBulk d := by
  cases d with
  | lit l => cases l <;> simp [Rows.uptoBulk]
  | _ => simp [Rows.uptoBulk]
theorem bulk_len (l : List (DataW H)) : l.length ≤ Rows.uptoBulkAll l := by
  induction l with
  | nil => simp [Rows.uptoBulkAll]
  | cons x r ih => have := bulk_one (d := x); simp only [Rows.uptoBulkAll, List.length_cons]; omega
theorem weights_mem_all {P : Program} {e : TypeId} {d : DataW H} {l : List (DataW H)} (h : d ∈ l) : ∀ n ∈ d.weights P e, n ∈ DataW.weightsAll P e l := by
  induction l with
  | nil => cases h
  | cons x r ih =>
    intro n hn
    simp only [DataW.weightsAll, List.mem_append]
    cases List.mem_cons.1 h with
    | inl e => subst e; exact .inl hn
    | inr e => exact .inr (ih e n hn)

/-- a slice of any elements, read off its one cell; R: what an element's cells read as, sz: its size -/
theorem core_sl {α : Type} [Inhabited α] {t e k : Nat} {fuel : Nat} {cs : List Value} {d : DataW H} {p : List MemPlace} (ht : Try.prog.underlying t = some (.slice e)) (hk : Try.prog.cellsOf e = k) (hk1 : 1 ≤ k) (hbe : 1 ≤ Try.prog.bytesOf e)
    (R : List Value → α → Prop) (sz : α → Nat)
    (hel : ∀ (n : Nat) (cs : List Value) (d : DataW H) (p : List MemPlace), DataW.trod enc Try.prog W 0 (fun _ => true) held n e cs = some (d, p) → (∀ q ∈ d.weights Try.prog e, q ≤ reachBytes) → ∃ x, R cs x ∧ sz x ≤ Rows.uptoBulk d)
    (hf : DataW.trod enc Try.prog W 0 (fun _ => true) held fuel t cs = some (d, p)) (hw : ∀ n ∈ d.weights Try.prog t, n ≤ reachBytes) :
    ∃ v l, cs = [v] ∧ ArgSl k R W v l ∧ (∀ x ∈ l, sz x ≤ Rows.uptoBulk d) ∧ l.length ≤ Rows.uptoBulk d := by
  rcases Deep.open_slice ht hf with ⟨hcs, hx⟩ | ⟨a, len, cap, m, n, D, Pl, hcs, _, hl, hm, hmm, hx, hcell⟩
  · exact ⟨_, [], hcs, ⟨none, 0, 0, rfl, rfl, Nat.le_refl _, Nat.zero_le _, fun _ => rfl, fun j hj => absurd hj (Nat.not_lt_zero _)⟩, (fun x hx => by cases hx), by simp⟩
  · simp only [Prod.mk.injEq] at hx
    obtain ⟨rfl, _⟩ := hx
    simp only [if_true] at hmm
    have hmc : m = cap := by simpa using hmm
    clear hmm
    subst hmc
    have hmem : ∀ i, i < len → D i ∈ (List.range len).map D := fun i hi => List.mem_map.2 ⟨i, List.mem_range.2 hi, rfl⟩
    have hex : ∀ i, i < len → ∃ x : α, (∃ cs', W.cells? 0 (a.add (i * k)) k = some cs' ∧ R cs' x) ∧ sz x ≤ Rows.uptoBulk (D i) := by
      intro i hi
      obtain ⟨cs', h1, h2⟩ := hcell i (by omega)
      rw [hk] at h1
      obtain ⟨x, hx1, hx2⟩ := hel n cs' (D i) (Pl i) h2 (fun q hq => hw q (by
        simp only [DataW.weights, ht, List.mem_cons, List.mem_append]
        exact .inr (.inl (weights_mem_all (hmem i hi) q hq))))
      exact ⟨x, ⟨cs', h1, hx1⟩, hx2⟩
    obtain ⟨f, hf'⟩ := Deep.choose_lt hex
    have hcapb : m ≤ 140737488355328 := by
      have h1 := hw (((List.range len).map D).length + ((List.range (m - len)).map fun j => D (len + j)).length |> (· * Try.prog.bytesOf e)) (by
        simp [DataW.weights, ht])
      simp only [List.length_map, List.length_range] at h1
      unfold reachBytes at h1
      have h2 : len + (m - len) = m := by omega
      rw [h2] at h1
      have h3 : m * 1 ≤ m * Try.prog.bytesOf e := Nat.mul_le_mul_left _ hbe
      omega
    refine ⟨_, (List.range len).map f, hcs, ⟨some a, len, m, rfl, by simp, hl, hcapb, (fun h => by cases h), fun j hj => ?_⟩, ?_, ?_⟩
    · obtain ⟨⟨cs', h1, h2⟩, h3⟩ := hf' j hj
      obtain ⟨h4, h5⟩ := cells_of h1
      obtain ⟨b, off, spot⟩ := a
      have hspot : spot = none := by
        obtain ⟨⟨cs0, h10, _⟩, _⟩ := hf' 0 (by omega)
        obtain ⟨h40, h50⟩ := cells_of h10
        have h0 := h50 0 (by omega)
        rw [List.getElem?_eq_getElem (by omega)] at h0
        simpa [Addr.add] using World.cell?_spot h0
      subst hspot
      refine ⟨b, off, cs', rfl, h4, fun i hi => ?_, ?_⟩
      · have := h5 i hi
        rw [addr_add, addr_add] at this
        exact this
      · rw [List.getD_eq_getElem?_getD, List.getElem?_map, List.getElem?_range hj]
        exact h2
    · intro x hx
      obtain ⟨i, hi, rfl⟩ := List.mem_map.1 hx
      have hi' := List.mem_range.1 hi
      have h1 := (hf' i hi').2
      have h2 := bulk_mem (hmem i hi')
      simp only [Rows.uptoBulk]
      omega
    · have h2 := bulk_len ((List.range len).map D)
      simp only [List.length_map, List.length_range] at h2 ⊢
      simp only [Rows.uptoBulk]
      omega
theorem open_sl {α : Type} [Inhabited α] {t e k : Nat} {b0 : Nat} {v : Value} {d : DataW H} {p : List MemPlace} (ht : Try.prog.underlying t = some (.slice e)) (hk : Try.prog.cellsOf e = k) (hk1 : 1 ≤ k) (hbe : 1 ≤ Try.prog.bytesOf e)
    (R : List Value → α → Prop) (sz : α → Nat)
    (hel : ∀ (n : Nat) (cs : List Value) (d : DataW H) (p : List MemPlace), DataW.trod enc Try.prog W 0 (fun _ => true) held n e cs = some (d, p) → (∀ q ∈ d.weights Try.prog e, q ≤ reachBytes) → ∃ x, R cs x ∧ sz x ≤ Rows.uptoBulk d)
    (hval : Value.okWide Try.prog W .any b0 t v) (h : DataW.Trod enc Try.prog W 0 (fun _ => true) held t v d p) (hw : ∀ n ∈ d.weights Try.prog t, n ≤ reachBytes) :
    ∃ l, ArgSl k R W v l ∧ (∀ x ∈ l, sz x ≤ Rows.uptoBulk d) ∧ l.length ≤ Rows.uptoBulk d := by
  obtain ⟨a0, len, cap, rfl⟩ := okWide_slice ht hval
  obtain ⟨fuel, hf⟩ := h
  obtain ⟨v, l, hcs, h1, h2⟩ := core_sl ht hk hk1 hbe R sz hel hf hw
  simp [Value.cells] at hcs
  subst hcs
  exact ⟨l, h1, h2⟩
theorem open_b {b0 : Nat} {v : Value} {d : DataW H} {p : List MemPlace} (hval : Value.okWide Try.prog W .any b0 4 v)
    (h : DataW.Trod enc Try.prog W 0 (fun _ => true) held 4 v d p) : ∃ b, v = .bool b := by
  obtain ⟨b, rfl, _, _⟩ := open_bool Try.underlying4 hval h
  exact ⟨b, rfl⟩

/-- integers -/
theorem open_i64 {b0 : Nat} {v : Value} {d : DataW H} {p : List MemPlace} (hval : Value.okWide Try.prog W .any b0 3 v)
    (h : DataW.Trod enc Try.prog W 0 (fun _ => true) held 3 v d p) : ∃ z, v = .int .i64 z ∧ -9223372036854775808 ≤ z ∧ z ≤ 9223372036854775807 := by
  obtain ⟨z, rfl, _, _, hz⟩ := open_int Try.underlying3 hval h
  exact ⟨z, rfl, bounds_i64 hz⟩
theorem open_u32 {b0 : Nat} {v : Value} {d : DataW H} {p : List MemPlace} (hval : Value.okWide Try.prog W .any b0 136 v)
    (h : DataW.Trod enc Try.prog W 0 (fun _ => true) held 136 v d p) : ∃ S : BitVec 32, v = .int .u32 (S.toNat : Int) := by
  obtain ⟨z, rfl, _, _, hz⟩ := open_int Try.underlying136 hval h
  have hb := bounds_u32 hz
  exact ⟨BitVec.ofNat 32 z.toNat, by rw [BitVec.toNat_ofNat, Nat.mod_eq_of_lt (by omega)]; congr 1; omega⟩
theorem open_u64 {b0 : Nat} {v : Value} {d : DataW H} {p : List MemPlace} (hval : Value.okWide Try.prog W .any b0 104 v)
    (h : DataW.Trod enc Try.prog W 0 (fun _ => true) held 104 v d p) : ∃ z, v = .int .u64 z ∧ 0 ≤ z ∧ z ≤ 18446744073709551615 := by
  obtain ⟨z, rfl, _, _, hz⟩ := open_int Try.underlying104 hval h
  exact ⟨z, rfl, bounds_u64 hz⟩
theorem open_u8 {b0 : Nat} {v : Value} {d : DataW H} {p : List MemPlace} (hval : Value.okWide Try.prog W .any b0 5 v)
    (h : DataW.Trod enc Try.prog W 0 (fun _ => true) held 5 v d p) : ∃ c : UInt8, v = .int .u8 (c.toNat : Int) := by
  obtain ⟨z, rfl, _, _, hz⟩ := open_int Try.underlying5 hval h
  have hb := bounds_u8 hz
  exact ⟨UInt8.ofNat z.toNat, by rw [UInt8.toNat_ofNat_of_lt' (by show _ < 256; omega)]; congr 1; omega⟩

/-- The weights of the j-th argument. -/
theorem weights_at {P : Program} {ts : List TypeId} {ds : List (DataW H)} (h : (DataW.weightsEach P ts ds).all (· ≤ reachBytes) = true) (j : Nat) {t : TypeId} {d : DataW H} (ht : ts[j]? = some t) (hd : ds[j]? = some d) :
    ∀ n ∈ d.weights P t, n ≤ reachBytes := fun n hn => by
  have := List.all_eq_true.1 h n (DataW.weights_mem_each ht hd n hn)
  simpa using this
end
end Go.Proofs.Ytipkeifpkemcdaa
