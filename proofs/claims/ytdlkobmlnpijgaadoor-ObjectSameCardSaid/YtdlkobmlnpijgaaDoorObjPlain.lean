/- Objects as data, and as cells. -/
import Derived.Test.YtdlkobmlnpijgaaDoorSl
namespace Go.Proofs.YtdlkobmlnpijgaaDoor
open Go.RowKit
set_option linter.unusedVariables false
set_option linter.unusedSimpArgs false

/-- An object, as data. -/
structure ObjD where
  id : ByteArray := ⟨#[]⟩
  typ : Int := 0
  alg : Int := 0
  len : Int := 0
  mask : Int := 0
  mat : List UInt8 := []
  st : Int := 0
  dates : List (Bool × Int) := List.replicate 10 (false, 0)
  reason : Int := 0
  msg : ByteArray := ⟨#[]⟩
  names : List ByteArray := []
  links : List (Int × ByteArray) := []
  custom : List (ByteArray × ByteArray) := []
  limHas : Bool := false
  total : Int := 0
  count : Int := 0
  unit : Int := 0
  arch : Bool := false
structure ObjV where
  mat : Sl := {}
  names : Sl := {}
  links : Sl := {}
  custom : Sl := {}
def ObjV.foot (s : ObjV) : List Nat := s.mat.blk ++ s.names.blk ++ s.links.blk ++ s.custom.blk
def ObjD.dat (O : ObjD) (i : Nat) : Bool × Int := O.dates.getD i (false, 0)
def objCells (O : ObjD) (s : ObjV) : Array Value :=
  #[.string O.id, .int .i64 O.typ, .int .i64 O.alg, .int .i64 O.len, .int .i64 O.mask, s.mat.v, .int .i64 O.st,
    .bool (O.dat 0).1, .int .i64 (O.dat 0).2, .bool (O.dat 1).1, .int .i64 (O.dat 1).2, .bool (O.dat 2).1, .int .i64 (O.dat 2).2, .bool (O.dat 3).1, .int .i64 (O.dat 3).2, .bool (O.dat 4).1, .int .i64 (O.dat 4).2,
    .bool (O.dat 5).1, .int .i64 (O.dat 5).2, .bool (O.dat 6).1, .int .i64 (O.dat 6).2, .bool (O.dat 7).1, .int .i64 (O.dat 7).2, .bool (O.dat 8).1, .int .i64 (O.dat 8).2, .bool (O.dat 9).1, .int .i64 (O.dat 9).2,
    .int .i64 O.reason, .string O.msg, s.names.v, s.links.v, s.custom.v, .bool O.limHas, .int .i64 O.total, .int .i64 O.count, .int .i64 O.unit, .bool O.arch]
def zObj : ObjD := {}
def zObjV : ObjV := {}
theorem objCells_size (O : ObjD) (s : ObjV) : (objCells O s).size = 37 := rfl
section
variable (O : ObjD) (s : ObjV)
theorem oc0 : (objCells O s)[0]? = some (.string O.id) := rfl
theorem oc1 : (objCells O s)[1]? = some (.int .i64 O.typ) := rfl
theorem oc2 : (objCells O s)[2]? = some (.int .i64 O.alg) := rfl
theorem oc3 : (objCells O s)[3]? = some (.int .i64 O.len) := rfl
theorem oc4 : (objCells O s)[4]? = some (.int .i64 O.mask) := rfl
theorem oc5 : (objCells O s)[5]? = some (.slice s.mat.a s.mat.n s.mat.c) := rfl
theorem oc6 : (objCells O s)[6]? = some (.int .i64 O.st) := rfl
theorem oc27 : (objCells O s)[27]? = some (.int .i64 O.reason) := rfl
theorem oc28 : (objCells O s)[28]? = some (.string O.msg) := rfl
theorem oc29 : (objCells O s)[29]? = some (.slice s.names.a s.names.n s.names.c) := rfl
theorem oc30 : (objCells O s)[30]? = some (.slice s.links.a s.links.n s.links.c) := rfl
theorem oc31 : (objCells O s)[31]? = some (.slice s.custom.a s.custom.n s.custom.c) := rfl
theorem oc32 : (objCells O s)[32]? = some (.bool O.limHas) := rfl
theorem oc33 : (objCells O s)[33]? = some (.int .i64 O.total) := rfl
theorem oc34 : (objCells O s)[34]? = some (.int .i64 O.count) := rfl
theorem oc35 : (objCells O s)[35]? = some (.int .i64 O.unit) := rfl
theorem oc36 : (objCells O s)[36]? = some (.bool O.arch) := rfl
theorem ocH : ∀ i, i < 10 → (objCells O s)[7 + i * 2]? = some (.bool (O.dat i).1) := by
  intro i hi
  have : i = 0 ∨ i = 1 ∨ i = 2 ∨ i = 3 ∨ i = 4 ∨ i = 5 ∨ i = 6 ∨ i = 7 ∨ i = 8 ∨ i = 9 := by omega
  rcases this with rfl | rfl | rfl | rfl | rfl | rfl | rfl | rfl | rfl | rfl <;> rfl
theorem ocT : ∀ i, i < 10 → (objCells O s)[7 + i * 2 + 1]? = some (.int .i64 (O.dat i).2) := by
  intro i hi
  have : i = 0 ∨ i = 1 ∨ i = 2 ∨ i = 3 ∨ i = 4 ∨ i = 5 ∨ i = 6 ∨ i = 7 ∨ i = 8 ∨ i = 9 := by omega
  rcases this with rfl | rfl | rfl | rfl | rfl | rfl | rfl | rfl | rfl | rfl <;> rfl
theorem os5 (a : Option Addr) (n c : Nat) : (objCells O s).setIfInBounds 5 (.slice a n c) = objCells O { s with mat := ⟨a, n, c⟩ } := rfl
theorem os6 (z : Int) : (objCells O s).setIfInBounds 6 (.int .i64 z) = objCells { O with st := z } s := rfl
theorem os27 (z : Int) : (objCells O s).setIfInBounds 27 (.int .i64 z) = objCells { O with reason := z } s := rfl
theorem os28 (z : ByteArray) : (objCells O s).setIfInBounds 28 (.string z) = objCells { O with msg := z } s := rfl
theorem os29 (a : Option Addr) (n c : Nat) : (objCells O s).setIfInBounds 29 (.slice a n c) = objCells O { s with names := ⟨a, n, c⟩ } := rfl
theorem os30 (a : Option Addr) (n c : Nat) : (objCells O s).setIfInBounds 30 (.slice a n c) = objCells O { s with links := ⟨a, n, c⟩ } := rfl
theorem os31 (a : Option Addr) (n c : Nat) : (objCells O s).setIfInBounds 31 (.slice a n c) = objCells O { s with custom := ⟨a, n, c⟩ } := rfl
theorem os36 (z : Bool) : (objCells O s).setIfInBounds 36 (.bool z) = objCells { O with arch := z } s := rfl
theorem osL (h : Bool) (t c u : Int) : ((((objCells O s).setIfInBounds 32 (.bool h)).setIfInBounds 33 (.int .i64 t)).setIfInBounds 34 (.int .i64 c)).setIfInBounds 35 (.int .i64 u) = objCells { O with limHas := h, total := t, count := c, unit := u } s := rfl
def ObjD.setDate (O : ObjD) (i : Nat) (d : Bool × Int) : ObjD := { O with dates := O.dates.set i d }
theorem dat_set (hl : O.dates.length = 10) (i j : Nat) (d : Bool × Int) (hi : i < 10) : (O.setDate i d).dat j = if j = i then d else O.dat j := by
  unfold ObjD.dat ObjD.setDate
  simp only [List.getD_eq_getElem?_getD]
  by_cases h : j = i
  · subst h; rw [List.getElem?_set_self (by omega), if_pos rfl]; rfl
  · rw [List.getElem?_set_ne (by omega), if_neg h]
theorem osD (hl : O.dates.length = 10) (i : Nat) (hi : i < 10) (h : Bool) (t : Int) :
    ((objCells O s).setIfInBounds (7 + i * 2) (.bool h)).setIfInBounds (7 + i * 2 + 1) (.int .i64 t) = objCells (O.setDate i (h, t)) s := by
  have hd := fun j => dat_set O hl i j (h, t) hi
  have : i = 0 ∨ i = 1 ∨ i = 2 ∨ i = 3 ∨ i = 4 ∨ i = 5 ∨ i = 6 ∨ i = 7 ∨ i = 8 ∨ i = 9 := by omega
  unfold objCells
  simp only [hd]
  rcases this with rfl | rfl | rfl | rfl | rfl | rfl | rfl | rfl | rfl | rfl <;> rfl
theorem oc_one : (objCells O s).all (·.oneCell') = true := by simp [objCells, Value.oneCell']
end

/-- What time does. -/
def dueV (st : Int) (d1 d4 : Bool × Int) (now : Int) : List Int :=
  if st = 1 then (if d1.1 = true ∧ d1.2 ≤ now then 2 :: (if d4.1 = true ∧ d4.2 ≤ now then [3] else []) else [])
  else if st = 2 then (if d4.1 = true ∧ d4.2 ≤ now then [3] else []) else []
def nextV (st : Int) (d1 d4 : Bool × Int) : Int × Bool × Int := if st = 1 then (2, d1) else if st = 2 then (3, d4) else (0, false, 0)
def dueOf (O : ObjD) (now : Int) : List Int := dueV O.st (O.dat 1) (O.dat 4) now
def nextOf (O : ObjD) : Int × Bool × Int := nextV O.st (O.dat 1) (O.dat 4)
theorem dueV_no (st : Int) (d1 d4 : Bool × Int) (now : Int) (h : ¬ ((nextV st d1 d4).2.1 = true ∧ (nextV st d1 d4).2.2 ≤ now)) : dueV st d1 d4 now = [] := by
  unfold dueV; unfold nextV at h
  by_cases h1 : st = 1
  · rw [if_pos h1] at h ⊢; rw [if_neg h]
  · rw [if_neg h1] at h ⊢
    by_cases h2 : st = 2
    · rw [if_pos h2] at h ⊢; rw [if_neg h]
    · rw [if_neg h2]
theorem dueV_yes (st : Int) (d1 d4 : Bool × Int) (now : Int) (h1 : (nextV st d1 d4).2.1 = true) (h2 : (nextV st d1 d4).2.2 ≤ now) :
    dueV st d1 d4 now = (nextV st d1 d4).1 :: dueV (nextV st d1 d4).1 d1 d4 now ∧ (st = 1 ∧ (nextV st d1 d4).1 = 2 ∨ st = 2 ∧ (nextV st d1 d4).1 = 3) := by
  unfold nextV at h1 h2 ⊢
  by_cases e1 : st = 1
  · subst e1
    rw [if_pos rfl] at h1 h2 ⊢
    refine ⟨?_, .inl ⟨rfl, rfl⟩⟩
    show dueV 1 d1 d4 now = 2 :: dueV 2 d1 d4 now
    have a1 : d1.1 = true := h1
    have a2 : d1.2 ≤ now := h2
    simp [dueV, a1, a2]
  · rw [if_neg e1] at h1 h2 ⊢
    by_cases e2 : st = 2
    · subst e2
      rw [if_pos rfl] at h1 h2 ⊢
      refine ⟨?_, .inr ⟨rfl, rfl⟩⟩
      show dueV 2 d1 d4 now = 3 :: dueV 3 d1 d4 now
      have a1 : d4.1 = true := h1
      have a2 : d4.2 ≤ now := h2
      simp [dueV, a1, a2]
    · rw [if_neg e2] at h1; cases h1
theorem dueV_none (st : Int) (d1 d4 : Bool × Int) (now : Int) (h1 : st ≠ 1) (h2 : st ≠ 2) : dueV st d1 d4 now = [] := by
  unfold dueV; rw [if_neg h1, if_neg h2]
def movedOf (O : ObjD) (now : Int) : ObjD :=
  match (dueOf O now).getLast? with
  | none => O
  | some z => { O.setDate 9 (true, now) with st := z }
end Go.Proofs.YtdlkobmlnpijgaaDoor
