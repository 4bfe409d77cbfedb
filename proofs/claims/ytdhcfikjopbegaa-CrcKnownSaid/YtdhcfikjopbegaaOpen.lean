/- What an argument that came in reads as: openers for the laws' frames. -/
import Derived.Test.YtdhcfikjopbegaaRows
import Derived.Test.YtdhcfikjopbegaaMem
import Derived.ProofKit
import Derived.OpenShut
import Derived.ShutString
import Derived.ChangeOld
import Derived.SizedLaws
import Derived.JoinedCond
import Derived.Deep.CondSized
namespace Go.Proofs.Ytdhcfikjopbegaa
open Go.ChangeShapes Go.WideShapes Go.ChangeAt Go.RowKit
set_option linter.unusedVariables false
set_option linter.unusedSimpArgs false

theorem own : ownKnob Try.prog.godebug = none := by kernel_rfl
theorem laidOut : laidOutB Try.prog = true := by kernel_rfl

section
variable {H : Type} {enc : TypeId × Value → H} {W : World} {base : Nat} {spare : Nat → Bool} {held : Bool}

theorem bulk_lits (k : IntKind) (zs : List Int) : Rows.uptoBulkAll (H := H) (lits k zs) = zs.length := by
  induction zs with
  | nil => rfl
  | cons z zs ih =>
    show Rows.uptoBulkAll (DataW.lit (Lit.int k z) :: lits k zs) = _
    simp only [Rows.uptoBulkAll, Rows.uptoBulk, ih, List.length_cons]
    omega
theorem lits_len (k : IntKind) (zs : List Int) : (lits (H := H) k zs).length = zs.length := by simp [lits]

theorem ints_bytes (zs : List Int) (h : ∀ n ∈ zs, (Lit.int .u8 n).wf = true) : ∃ l : List UInt8, l.length = zs.length ∧ ∀ i, i < zs.length → Value.int .u8 (zs.getD i 0) = B8 (l.getD i 0) := by
  refine ⟨zs.map (fun z => UInt8.ofNat z.toNat), by simp, fun i hi => ?_⟩
  have hb := bounds_u8 (h (zs[i]) (List.getElem_mem hi))
  rw [List.getD_eq_getElem?_getD, List.getD_eq_getElem?_getD, List.getElem?_map, List.getElem?_eq_getElem hi]
  simp only [Option.getD_some, Option.map_some]
  unfold B8
  rw [UInt8.toNat_ofNat_of_lt' (by show _ < 256; omega)]
  congr 1; omega

/-- a slice of bytes -/
theorem open_argB {b0 : Nat} {v : Value} {d : DataW H} {p : List MemPlace} (hval : Value.okWide Try.prog W .any b0 25 v)
    (h : DataW.Trod enc Try.prog W 0 (fun _ => true) held 25 v d p) (hw : ∀ n ∈ d.weights Try.prog 25, n ≤ reachBytes) :
    ∃ l, ArgB W v l ∧ l.length ≤ Rows.uptoBulk d := by
  obtain ⟨a0, len, cap, rfl⟩ := okWide_slice Try.underlying25 hval
  obtain ⟨fuel, hf⟩ := h
  rcases open_ints Try.underlying25 Try.underlying5 (by kernel_rfl) hf with ⟨hcs, hx⟩ | ⟨x, len', cap', zs, hcs, _, hl, hm, hz, hx, hcell, hwz⟩
  · simp [Value.cells] at hcs
    obtain ⟨rfl, rfl, rfl⟩ := hcs
    exact ⟨[], ⟨none, 0, 0, rfl, RdB.nil _ _, Nat.le_refl _, by omega, fun _ => rfl⟩, by simp⟩
  · simp [Value.cells] at hcs
    obtain ⟨rfl, rfl, rfl⟩ := hcs
    simp only [Prod.mk.injEq] at hx
    obtain ⟨rfl, _⟩ := hx
    have hz' : zs.length = cap := by simpa using hz
    obtain ⟨l, hll, hlv⟩ := ints_bytes zs hwz
    have hcap : cap ≤ 140737488355328 := by
      have h1 := hw ((lits (H := H) .u8 (zs.take len)).length + (lits (H := H) .u8 (zs.drop len)).length |> (· * Try.prog.bytesOf 5)) (by
        simp [DataW.weights, Try.underlying25])
      have hb1 : Try.prog.bytesOf 5 = 1 := by kernel_rfl
      rw [hb1] at h1
      simp only [lits_len, List.length_take, List.length_drop] at h1
      unfold reachBytes at h1
      omega
    refine ⟨l.take len, ⟨some x, len, cap, rfl, ⟨by rw [List.length_take]; omega, fun j hj => ?_⟩, hl, hcap, fun h => by cases h⟩, ?_⟩
    · have h0 := hcell j (by omega)
      obtain ⟨b, off, spot⟩ := x
      have hspot : spot = none := by
        have h00 := hcell 0 (by omega)
        simpa [Addr.add] using World.cell?_spot h00
      subst hspot
      refine ⟨b, off, rfl, fun i hi => ?_⟩
      have hc := hcell i (by omega)
      rw [addr_add] at hc
      rw [hc, hlv i (by omega)]
      simp only [List.getD_eq_getElem?_getD, List.getElem?_take, if_pos hi]
    · simp only [Rows.uptoBulk, bulk_lits, List.length_take, List.length_drop]
      omega

/-- integers -/
theorem open_i64 {b0 : Nat} {v : Value} {d : DataW H} {p : List MemPlace} (hval : Value.okWide Try.prog W .any b0 3 v)
    (h : DataW.Trod enc Try.prog W 0 (fun _ => true) held 3 v d p) : ∃ z, v = .int .i64 z ∧ -9223372036854775808 ≤ z ∧ z ≤ 9223372036854775807 := by
  obtain ⟨z, rfl, _, _, hz⟩ := open_int Try.underlying3 hval h
  exact ⟨z, rfl, bounds_i64 hz⟩
theorem open_u32 {b0 : Nat} {v : Value} {d : DataW H} {p : List MemPlace} (hval : Value.okWide Try.prog W .any b0 23 v)
    (h : DataW.Trod enc Try.prog W 0 (fun _ => true) held 23 v d p) : ∃ S : BitVec 32, v = .int .u32 (S.toNat : Int) := by
  obtain ⟨z, rfl, _, _, hz⟩ := open_int Try.underlying23 hval h
  have hb := bounds_u32 hz
  exact ⟨BitVec.ofNat 32 z.toNat, by rw [BitVec.toNat_ofNat, Nat.mod_eq_of_lt (by omega)]; congr 1; omega⟩
theorem open_u64 {b0 : Nat} {v : Value} {d : DataW H} {p : List MemPlace} (hval : Value.okWide Try.prog W .any b0 34 v)
    (h : DataW.Trod enc Try.prog W 0 (fun _ => true) held 34 v d p) : ∃ z, v = .int .u64 z ∧ 0 ≤ z ∧ z ≤ 18446744073709551615 := by
  obtain ⟨z, rfl, _, _, hz⟩ := open_int Try.underlying34 hval h
  exact ⟨z, rfl, bounds_u64 hz⟩
theorem open_u8 {b0 : Nat} {v : Value} {d : DataW H} {p : List MemPlace} (hval : Value.okWide Try.prog W .any b0 5 v)
    (h : DataW.Trod enc Try.prog W 0 (fun _ => true) held 5 v d p) : ∃ c : UInt8, v = .int .u8 (c.toNat : Int) := by
  obtain ⟨z, rfl, _, _, hz⟩ := open_int Try.underlying5 hval h
  have hb := bounds_u8 hz
  exact ⟨UInt8.ofNat z.toNat, by rw [UInt8.toNat_ofNat_of_lt' (by show _ < 256; omega)]; congr 1; omega⟩

/-- The weights of the j-th argument. -/
theorem weights_at {P : Program} {ts : List TypeId} {ds : List (DataW H)} (h : (DataW.weightsEach P ts ds).all (· ≤ reachBytes) = true) (j : Nat) {t : TypeId} {d : DataW H} (ht : ts[j]? = some t) (hd : ds[j]? = some d) :
    ∀ n ∈ d.weights P t, n ≤ reachBytes := fun n hn => by
  have := List.all_eq_true.1 h n (DataW.weights_mem_each ht hd n hn)
  simpa using this
end
end Go.Proofs.Ytdhcfikjopbegaa
