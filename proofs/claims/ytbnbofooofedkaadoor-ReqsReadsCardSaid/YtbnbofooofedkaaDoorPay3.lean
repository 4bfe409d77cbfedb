/- Fields; pay.place; the plain law of Parse. -/
import Derived.Test.YtbnbofooofedkaaDoorPay2
namespace Go.Proofs.YtbnbofooofedkaaDoor
open Go.RowKit
set_option linter.unusedVariables false
set_option linter.unusedSimpArgs false
set_option maxRecDepth 100000
set_option maxHeartbeats 1600000
structure Fld where
 tag : Int := 0
 typ : Int := 0
 need : Bool := false
 many : Bool := false
instance : Inhabited Fld := ⟨{}⟩
def Fld.arr (f : Fld) : Array Value := #[.int .i64 f.tag, .int .i64 f.typ, .bool f.need, .bool f.many]
def fldCells (l : List Fld) : List Value := l.flatMap fun f => f.arr.toList
theorem fld_len (l : List Fld) : (fldCells l).length = l.length * 4 := by
 induction l with
 | nil => rfl
 | cons v r ih => simp only [fldCells, List.flatMap_cons, List.length_append, List.length_cons]; have : v.arr.toList.length = 4 := rfl; rw [this]; unfold fldCells at ih; rw [ih]; omega
theorem fld_one (l : List Fld) : ∀ u ∈ fldCells l, u.oneCell' = true := by
 intro u hu
 obtain ⟨x, _, hx⟩ := List.mem_flatMap.1 hu
 simp [Fld.arr] at hx
 rcases hx with rfl | rfl | rfl | rfl <;> rfl
theorem fld_app (l r : List Fld) : fldCells (l ++ r) = fldCells l ++ fldCells r := by unfold fldCells; rw [List.flatMap_append]
theorem fld_get (l : List Fld) : ∀ (k j : Nat) (v : Fld), l[k]? = some v → j < 4 → (fldCells l)[k * 4 + j]? = v.arr[j]? := by
 induction l with
 | nil => intro k j v h; simp at h
 | cons x r ih =>
  intro k j v h hj
  have e : fldCells (x :: r) = x.arr.toList ++ fldCells r := rfl
  have hl : x.arr.toList.length = 4 := rfl
  cases k with
  | zero =>
   simp at h; subst h
   rw [e, List.getElem?_append_left (by omega)]
   simp
  | succ k =>
   rw [e, List.getElem?_append_right (by omega), ← ih k j v (by simpa using h) hj]
   congr 1; omega
theorem SlR.flen {w : World} {s : Sl} {l : List Fld} (h : SlR w s 4 (fldCells l)) : l.length = s.n := by
 have := h.rd.len; rw [fld_len] at this; omega
theorem SlR.fld {w : World} {s : Sl} {l : List Fld} (h : SlR w s 4 (fldCells l)) {k : Nat} (hk : k < s.n) :
  ∃ b off f, s.a = some ⟨b, off, none⟩ ∧ l[k]? = some f ∧ w.rangeAt b (off + k * 4) f.arr.toList := by
 have hl := h.flen
 obtain ⟨b, off, ha, hc⟩ := h.rd.cell 0 (by omega)
 have hv : l[k]? = some (l[k]'(by omega)) := List.getElem?_eq_getElem _
 refine ⟨b, off, l[k]'(by omega), ha, hv, fun j u hu => ?_⟩
 have hj : j < 4 := (List.getElem?_eq_some_iff.1 hu).1
 rw [Nat.add_assoc]
 exact hc (k * 4 + j) u ((fld_get l k j _ hv hj).trans (by simpa using hu))
/-- The cells of a range, one by one. -/
theorem range_cell {w : World} {b o : Nat} {cs : List Value} (h : w.rangeAt b o cs) (j : Nat) {v : Value} (hv : cs[j]? = some v) : w.cell? ⟨b, o + j, none⟩ = some v := h j v hv
/-- The place of a tag, from one on. -/
def placeN (l : List Fld) (k : Nat) (tag : Int) : Option Nat := ((l.drop k).findIdx? fun f => f.tag == tag).map (· + k)
def placeI (o : Option Nat) : Int := match o with
 | some k => (k : Int)
 | none => -1
theorem place_step {l : List Fld} {k : Nat} {f : Fld} {tag : Int} (h : l[k]? = some f) : (f.tag == tag) = true ∧ placeN l k tag = some k ∨ (f.tag == tag) = false ∧ placeN l k tag = placeN l (k + 1) tag := by
 have hd : l.drop k = f :: l.drop (k + 1) := by
  rw [List.drop_eq_getElem_cons (List.getElem?_eq_some_iff.1 h).1]
  congr 1
  exact (List.getElem?_eq_some_iff.1 h).2
 unfold placeN
 rw [hd, List.findIdx?_cons]
 cases ht : (f.tag == tag) with
 | true => left; simp
 | false =>
  right
  refine ⟨rfl, ?_⟩
  cases (l.drop (k + 1)).findIdx? fun f => f.tag == tag with
  | none => rfl
  | some j => simp; omega
theorem place_end {l : List Fld} {k : Nat} {tag : Int} (h : l.length ≤ k) : placeN l k tag = none := by
 unfold placeN; rw [List.drop_eq_nil_of_le h]; rfl
theorem place_lt {l : List Fld} {k j : Nat} {tag : Int} (h : placeN l k tag = some j) : k ≤ j ∧ j < l.length := by
 unfold placeN at h
 cases hf : (l.drop k).findIdx? fun f => f.tag == tag with
 | none => rw [hf] at h; cases h
 | some i =>
  rw [hf] at h
  simp at h
  have := (List.findIdx?_eq_some_iff_getElem.1 hf).1
  simp at this
  omega
theorem place_any (s : Sl) (l : List Fld) (k : Nat) (tag : Int) (w : World) (h : SlR w s 4 (fldCells l)) (hk : k ≤ 1099511627776) :
  Calls Tryd.prog 47 #[.slice s.a s.n s.c, .int .i64 (k : Int), .int .i64 tag] w fun e w' => e = .returned (.int .i64 (placeI (placeN l k tag))) ∧ w = w' := by
 have HS := hid h
 have hsm := h.sm
 clear h
 obtain ⟨sa, hsa⟩ : ∃ sa, s.a = sa := ⟨_, rfl⟩
 rw [hsa]
 have HSA := hid hsa; clear hsa
 go_enter Tryd.func47, Tryd.ntmps47
 go_wp2_with fail
 go_loop [7] (fun i => ∃ j : Nat, i = .int .i64 j ∧ j ≤ max k s.n ∧ k ≤ j ∧ placeN l k tag = placeN l j tag) (fun i => (max k s.n) - (intOf i).toNat)
 case atStart => exact ⟨k, rfl, by omega, by omega, rfl⟩
 case round =>
  obtain ⟨j, rfl, hj, hkj, hp⟩ := hrel
  have HP := hid hp; clear hp
  by_cases hlt : j < s.n
  ·obtain ⟨bx, ox, f, hax, hf, hrow⟩ := HS.out.fld hlt
   rw [HSA.out] at hax
   subst hax
   have hc := range_cell hrow 0 (v := .int .i64 f.tag) rfl
   rw [Nat.add_zero] at hc
   rcases place_step (tag := tag) hf with ⟨h1, h2⟩ | ⟨h1, h2⟩
   ·have H2 := hid h2
    clear h2 hf hrow
    go_wp2_with fail
    go_ret
    exact ⟨by rw [HP.out, H2.out]; rfl, rfl⟩
   ·have H2 := hid h2
    clear h2 hf hrow
    go_wp2_with fail
    go_round
    case rel => exact ⟨j + 1, by go_num, by omega, by omega, HP.out.trans H2.out⟩
    case measure => simp [intOf]; omega
  ·have H2 := hid (place_end (l := l) (k := j) (tag := tag) (by rw [HS.out.flen]; omega))
   go_wp2_with fail
   go_ret
   exact ⟨by rw [HP.out, H2.out]; rfl, rfl⟩
end Go.Proofs.YtbnbofooofedkaaDoor
