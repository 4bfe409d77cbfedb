/- pay.Parse: the plain law. -/
import Derived.Test.YtbnbofooofedkaaDoorPay4
namespace Go.Proofs.YtbnbofooofedkaaDoor
open Go.RowKit
set_option linter.unusedVariables false
set_option linter.unusedSimpArgs false
/-- One kid more. -/
def parseStep (l : List Fld) (st : Nat × List (List Itm)) (x : Itm) : Except Int (Nat × List (List Itm)) :=
 match placeN l st.1 x.tag with
 | none => .error 4
 | some k =>
  if (st.2.getD k []).length ≠ 0 ∧ (l.getD k default).many = false then .error 4
  else if x.typ ≠ (l.getD k default).typ then .error 7
  else .ok (k, st.2.set k (st.2.getD k [] ++ [x]))
def parseKids (l : List Fld) (kids : List Itm) : Except Int (Nat × List (List Itm)) := kids.foldlM (parseStep l) (0, List.replicate l.length [])
/-- Is a field missed? -/
def missK (l : List Fld) (rows : List (List Itm)) (k : Nat) : Bool := (l.getD k default).need && (rows.getD k []).isEmpty
def missing (l : List Fld) (rows : List (List Itm)) : Bool := (List.range l.length).any (missK l rows)
def parseV (l : List Fld) (i : Itm) : Except Int (List (List Itm)) :=
 if i.typ ≠ 1 then .error 4
 else match parseKids l i.kids with
  | .error e => .error e
  | .ok st => if missing l st.2 = true then .error 6 else .ok st.2
theorem kids_take {l : List Fld} {kids : List Itm} {k : Nat} {x : Itm} {st : Nat × List (List Itm)} (h : parseKids l (kids.take k) = .ok st) (hx : kids[k]? = some x) : parseKids l (kids.take (k + 1)) = parseStep l st x := by
 unfold parseKids at *
 rw [List.take_add_one, hx, List.foldlM_append, h]
 show (List.foldlM (parseStep l) st [x]) = _
 rw [List.foldlM_cons]
 cases parseStep l st x <;> rfl
theorem kids_err {l : List Fld} {kids : List Itm} {k : Nat} {e : Int} (h : parseKids l (kids.take k) = .error e) : parseKids l kids = .error e := by
 unfold parseKids at *
 rw [← List.take_append_drop k kids, List.foldlM_append, h]
 rfl
theorem parse_err {l : List Fld} {i : Itm} {k : Nat} {e : Int} (h1 : i.typ = 1) (h : parseKids l (i.kids.take k) = .error e) : parseV l i = .error e := by
 unfold parseV
 rw [if_neg (by simp [h1]), kids_err h]
theorem parse_typ {l : List Fld} {i : Itm} (h : i.typ ≠ 1) : parseV l i = .error 4 := by unfold parseV; rw [if_pos h]
theorem parse_ok {l : List Fld} {i : Itm} {st : Nat × List (List Itm)} (h1 : i.typ = 1) (h : parseKids l i.kids = .ok st) : parseV l i = if missing l st.2 = true then .error 6 else .ok st.2 := by
 unfold parseV
 rw [if_neg (by simp [h1]), h]
theorem missing_yes {l : List Fld} {rows : List (List Itm)} {k : Nat} (hk : k < l.length) (h : missK l rows k = true) : missing l rows = true :=
 List.any_eq_true.2 ⟨k, List.mem_range.2 hk, h⟩
theorem missing_no {l : List Fld} {rows : List (List Itm)} (h : ∀ k, k < l.length → missK l rows k = false) : missing l rows = false := by
 rw [missing, List.any_eq_false]
 intro k hk
 rw [h k (List.mem_range.1 hk)]; simp
theorem parseKids_len {l : List Fld} : ∀ (kids : List Itm) (st st' : Nat × List (List Itm)), kids.foldlM (parseStep l) st = .ok st' → st'.2.length = st.2.length := by
 intro kids
 induction kids with
 | nil => intro st st' h; cases h; rfl
 | cons x r ih =>
  intro st st' h
  rw [List.foldlM_cons] at h
  cases hs : parseStep l st x with
  | error e => rw [hs] at h; cases h
  | ok s1 =>
   rw [hs] at h
   rw [ih s1 st' h]
   unfold parseStep at hs
   cases hp : placeN l st.1 x.tag with
   | none => rw [hp] at hs; cases hs
   | some k =>
    rw [hp] at hs
    simp only at hs
    split at hs
    ·cases hs
    ·split at hs
     ·cases hs
     ·cases hs; simp
end Go.Proofs.YtbnbofooofedkaaDoor
