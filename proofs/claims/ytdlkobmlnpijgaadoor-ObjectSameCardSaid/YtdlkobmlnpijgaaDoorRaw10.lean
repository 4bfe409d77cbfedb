/- The object of raw numbers is one that may be. -/
import Derived.Test.YtdlkobmlnpijgaaDoorObjMake
import Derived.Test.YtdlkobmlnpijgaaDoorObjLaw
namespace Go.Proofs.YtdlkobmlnpijgaaDoor
open Go.RowKit
set_option linter.unusedVariables false
set_option linter.unusedSimpArgs false
set_option maxRecDepth 100000
set_option maxHeartbeats 1600000
theorem nodup_len {α : Type} [DecidableEq α] : ∀ (l m : List α), l.Nodup → (∀ x ∈ l, x ∈ m) → l.length ≤ m.length
  | [], m, _, _ => Nat.zero_le _
  | x :: l, m, hn, hs => by
    have hx : x ∈ m := hs x (by simp)
    have h1 := List.nodup_cons.1 hn
    have h2 := nodup_len l (m.erase x) h1.2 (fun y hy => by
      have hne : y ≠ x := fun e => h1.1 (e ▸ hy)
      exact (List.mem_erase_of_ne hne).2 (hs y (by simp [hy])))
    have h3 := List.length_erase_of_mem hx
    have h4 := List.length_pos_of_mem hx
    simp only [List.length_cons]
    omega
theorem getD_all {α : Type} {P : α → Prop} {l : List α} {d : α} (h : ∀ x ∈ l, P x) {k : Nat} (hk : k < l.length) : P (l.getD k d) := by
  rw [List.getD_eq_getElem?_getD, List.getElem?_eq_getElem hk]
  exact h _ (List.getElem_mem hk)
theorem getD_mem {α : Type} {l : List α} {d : α} {k : Nat} (hk : k < l.length) : l.getD k d ∈ l := getD_all (P := fun x => x ∈ l) (fun x h => h) hk
theorem idL_ok : ∀ s ∈ idL, isT s = true := by
  have : idL.all isT = true := by decide
  exact fun s hs => List.all_eq_true.1 this s hs
theorem handId_ok (n : Int) : isT (handId n) = true := idL_ok _ (getD_mem (by have := pickN_lt n 12 (by omega); simpa [idL] using this))
theorem nameL_ok : ∀ s ∈ nameL, isT s = true := by
  have : nameL.all isT = true := by decide
  exact fun s hs => List.all_eq_true.1 this s hs
theorem custNL_ok : ∀ s ∈ custNL, isC s = true := by
  have : custNL.all isC = true := by decide
  exact fun s hs => List.all_eq_true.1 this s hs
theorem custTL_ok : ∀ s ∈ custTL, isT s = true := by
  have : custTL.all isT = true := by decide
  exact fun s hs => List.all_eq_true.1 this s hs
theorem msgL_ok : ∀ s ∈ msgL, (decide (s.size = 0) || isT s) = true := by
  have : msgL.all (fun s => decide (s.size = 0) || isT s) = true := by decide
  exact fun s hs => List.all_eq_true.1 this s hs
structure RI (O : ObjD) : Prop where
  typ : (O.typ == 2 || (O.typ == 3 || (O.typ == 4 || O.typ == 7))) = true
  dates : ∀ d ∈ O.dates, dateOk d = true
  id : isT O.id = true
  alg : inB O.alg 0 100 = true
  len : inB O.len 0 100000 = true
  mask : inB O.mask 0 1048575 = true
  mat : O.mat.length ≤ 128
  st : inB O.st 1 6 = true
  reason : inB O.reason 0 7 = true
  msg : (decide (O.msg.size = 0) || (!(O.reason == 0) && isT O.msg)) = true
  names : (∀ n ∈ O.names, n ∈ nameL) ∧ O.names.Nodup
  links : (∀ n ∈ O.links, linkOk n = true) ∧ O.links.Nodup
  custom : (∀ n ∈ O.custom, custOk n = true) ∧ O.custom.Nodup ∧ O.custom.length ≤ 6
  lim : limOk O = true
theorem RI.setDate {O : ObjD} (h : RI O) (k : Nat) (d : Bool × Int) (hd : dateOk d = true) : RI (O.setDate k d) :=
  ⟨h.typ, fun x hx => by
    rcases List.mem_or_eq_of_mem_set hx with h' | h'
    · exact h.dates x h'
    · rw [h']; exact hd, h.id, h.alg, h.len, h.mask, h.mat, h.st, h.reason, h.msg, h.names, h.links, h.custom, h.lim⟩
theorem handBytes_len (k : Nat) (n : Int) : (handBytes k n).length = k := by unfold handBytes; exact lcgs_len _ _
theorem RI.init (x : RawD) : RI ((objInit x).setDate 0 (true, pick x.c 20)) := by
  refine RI.setDate ⟨?_, ?_, handId_ok _, ?_, by rfl, ?_, ?_, ?_, by rfl, by rfl, ⟨by simp [objInit], by simp [objInit]⟩, ⟨by simp [objInit], by simp [objInit]⟩, ⟨by simp [objInit], by simp [objInit], by simp [objInit]⟩, by rfl⟩ 0 _ ?_
  · exact getD_all (P := fun t => (t == 2 || (t == 3 || (t == 4 || t == 7))) = true) (l := typL) (by decide) (by have := pickN_lt x.b 5 (by omega); simpa [typL] using this)
  · intro d hd
    have : ∀ d ∈ (objInit x).dates, d = (false, 0) := fun d hd => by
      have h : (objInit x).dates = List.replicate 10 (false, 0) := rfl
      rw [h] at hd
      exact List.eq_of_mem_replicate hd
    rw [this d hd]; rfl
  · exact getD_all (P := fun t => inB t 0 100 = true) (l := algL) (by decide) (by have := pickN_lt x.c 4 (by omega); simpa [algL] using this)
  · exact getD_all (P := fun t => inB t 0 1048575 = true) (l := maskL) (by decide) (by have := pickN_lt (x.a.tdiv 12) 5 (by omega); simpa [maskL] using this)
  · show (handBytes (matN (pickN (x.b.tdiv 5) 5)) x.c).length ≤ 128
    rw [handBytes_len]
    exact getD_all (P := fun t => t ≤ 128) (l := matL) (by decide) (by have := pickN_lt (x.b.tdiv 5) 5 (by omega); simpa [matL] using this)
  · have h1 := pick_lo x.kind 6 (by omega)
    have h2 := pick_hi x.kind 6 (by omega)
    exact inB_iff.2 ⟨by show 1 ≤ 1 + pick x.kind 6; omega, by show 1 + pick x.kind 6 ≤ 6; omega⟩
  · have h1 := pick_lo x.c 20 (by omega)
    have h2 := pick_hi x.c 20 (by omega)
    unfold dateOk
    rw [if_pos rfl]
    exact inB_iff.2 ⟨by omega, by omega⟩
theorem nodup_snoc {α : Type} {l : List α} {x : α} (h : l.Nodup) (hx : x ∉ l) : (l ++ [x]).Nodup := by
  rw [List.nodup_append]
  refine ⟨h, by simp, fun a ha b hb => ?_⟩
  rw [List.mem_singleton.1 hb]
  exact fun e => hx (e ▸ ha)
theorem linkMem_iff {x : Int × ByteArray} {l : List (Int × ByteArray)} : linkMem x l = true ↔ x ∈ l := by
  unfold linkMem
  rw [List.any_eq_true]
  constructor
  · rintro ⟨y, hy, he⟩
    rw [Bool.and_eq_true, strEq_iff, beq_iff_eq] at he
    obtain ⟨a, b⟩ := x
    obtain ⟨c, d⟩ := y
    simp only at he
    rw [← he.1, ← he.2]; exact hy
  · intro h
    exact ⟨x, h, by rw [Bool.and_eq_true, strEq_iff, beq_iff_eq]; exact ⟨rfl, rfl⟩⟩
theorem custMem_iff {x : ByteArray × ByteArray} {l : List (ByteArray × ByteArray)} : custMem x l = true ↔ x ∈ l := by
  unfold custMem
  rw [List.any_eq_true]
  constructor
  · rintro ⟨y, hy, he⟩
    rw [Bool.and_eq_true, strEq_iff, strEq_iff] at he
    obtain ⟨a, b⟩ := x
    obtain ⟨c, d⟩ := y
    simp only at he
    rw [← he.1, ← he.2]; exact hy
  · intro h
    exact ⟨x, h, by rw [Bool.and_eq_true, strEq_iff, strEq_iff]; exact ⟨rfl, rfl⟩⟩
theorem RI.step {O : ObjD} (h : RI O) (y : RawD) : RI (objStep O y) := by
  unfold objStep
  split
  · have h1 := pick_lo y.b 60 (by omega)
    have h2 := pick_hi y.b 60 (by omega)
    exact h.setDate _ _ (by unfold dateOk; rw [if_pos rfl]; exact inB_iff.2 ⟨by omega, by omega⟩)
  split
  · split
    · exact h
    · rename_i hm
      rw [strMem_iff] at hm
      exact ⟨h.typ, h.dates, h.id, h.alg, h.len, h.mask, h.mat, h.st, h.reason, h.msg, ⟨fun n hn => by
        rcases List.mem_append.1 hn with h' | h'
        · exact h.names.1 n h'
        · rw [List.mem_singleton.1 h']; exact getD_mem (by have := pickN_lt y.a 5 (by omega); simpa [nameL] using this), nodup_snoc h.names.2 hm⟩, h.links, h.custom, h.lim⟩
  split
  · split
    · exact h
    · rename_i hm
      rw [linkMem_iff] at hm
      exact ⟨h.typ, h.dates, h.id, h.alg, h.len, h.mask, h.mat, h.st, h.reason, h.msg, h.names, ⟨fun n hn => by
        rcases List.mem_append.1 hn with h' | h'
        · exact h.links.1 n h'
        · rw [List.mem_singleton.1 h']
          have h1 := pick_lo y.a 5 (by omega)
          have h2 := pick_hi y.a 5 (by omega)
          show (inB (101 + pick y.a 5) 101 110 && isT (handId y.b)) = true
          rw [Bool.and_eq_true]
          exact ⟨inB_iff.2 ⟨by omega, by omega⟩, handId_ok _⟩, nodup_snoc h.links.2 hm⟩, h.custom, h.lim⟩
  split
  · have h1 := pick_lo y.a 50 (by omega)
    have h2 := pick_hi y.a 50 (by omega)
    have h3 := pick_lo y.b (1 + pick y.a 50 + 1) (by omega)
    have h4 := pick_hi y.b (1 + pick y.a 50 + 1) (by omega)
    have h5 := pick_lo y.c 2 (by omega)
    have h6 := pick_hi y.c 2 (by omega)
    refine ⟨h.typ, h.dates, h.id, h.alg, h.len, h.mask, h.mat, h.st, h.reason, h.msg, h.names, h.links, h.custom, ?_⟩
    unfold limOk
    rw [if_pos rfl, Bool.and_eq_true, Bool.and_eq_true, inB_iff, inB_iff, inB_iff]
    simp only
    omega
  split
  · split
    · exact h
    · rename_i hm
      have hm1 : ¬ custMem (custOf y) O.custom = true := fun e => hm (.inl e)
      have hm2 : ¬ 6 ≤ O.custom.length := fun e => hm (.inr e)
      rw [custMem_iff] at hm1
      exact ⟨h.typ, h.dates, h.id, h.alg, h.len, h.mask, h.mat, h.st, h.reason, h.msg, h.names, h.links, ⟨fun n hn => by
        rcases List.mem_append.1 hn with h' | h'
        · exact h.custom.1 n h'
        · rw [List.mem_singleton.1 h']
          show (isC (custNL.getD (pickN y.a 2) ⟨#[]⟩) && isT (custTL.getD (pickN y.b 4) ⟨#[]⟩)) = true
          rw [Bool.and_eq_true]
          exact ⟨custNL_ok _ (getD_mem (by have := pickN_lt y.a 2 (by omega); simpa [custNL] using this)), custTL_ok _ (getD_mem (by have := pickN_lt y.b 4 (by omega); simpa [custTL] using this))⟩,
        nodup_snoc h.custom.2.1 hm1, by simp; omega⟩, h.lim⟩
  split
  · have h1 := pick_lo y.a 7 (by omega)
    have h2 := pick_hi y.a 7 (by omega)
    refine ⟨h.typ, h.dates, h.id, h.alg, h.len, h.mask, h.mat, h.st, inB_iff.2 ⟨by show 0 ≤ 1 + pick y.a 7; omega, by show 1 + pick y.a 7 ≤ 7; omega⟩, ?_, h.names, h.links, h.custom, h.lim⟩
    have hm := msgL_ok (msgL.getD (pickN y.b 3) ⟨#[]⟩) (getD_mem (by have := pickN_lt y.b 3 (by omega); simpa [msgL] using this))
    show (decide ((msgL.getD (pickN y.b 3) ⟨#[]⟩).size = 0) || (!((1 + pick y.a 7) == 0) && isT (msgL.getD (pickN y.b 3) ⟨#[]⟩))) = true
    have e : ((1 + pick y.a 7) == 0) = false := beq_eq_false_iff_ne.2 (by omega)
    rw [e]
    simpa using hm
  · exact ⟨h.typ, h.dates, h.id, h.alg, h.len, h.mask, h.mat, h.st, h.reason, h.msg, h.names, h.links, h.custom, h.lim⟩
theorem RI.fold (l : List RawD) : ∀ {O : ObjD}, RI O → RI (l.foldl objStep O) := by
  induction l with
  | nil => exact fun h => h
  | cons y l ih => exact fun h => ih (h.step y)
theorem RI.right {O : ObjD} (h : RI O) (hl : O.links.length ≤ 8) : rightO O = true := by
  unfold rightO allO
  have hn := nodup_len O.names nameL h.names.2 h.names.1
  have hn5 : nameL.length = 5 := rfl
  have a1 : O.dates.all dateOk = true := List.all_eq_true.2 h.dates
  have a2 : O.names.all isT = true := List.all_eq_true.2 fun n hn => nameL_ok n (h.names.1 n hn)
  have a3 : O.links.all linkOk = true := List.all_eq_true.2 h.links.1
  have a4 : O.custom.all custOk = true := List.all_eq_true.2 h.custom.1
  rw [h.typ, a1, a2, a3, a4, h.id, h.alg, h.len, h.mask, h.st, h.reason, h.msg, h.lim]
  simp only [Bool.true_and, Bool.and_true, Bool.and_eq_true, decide_eq_true_eq]
  exact ⟨h.mat, ⟨h.names.2, by omega⟩, ⟨h.links.2, hl⟩, h.custom.2.1, h.custom.2.2⟩
theorem objRaw_right (x : RawD) (l : List RawD) : rightO (objRaw x l) = true := by
  have h := RI.fold (l.take 10) (RI.init x)
  unfold objRaw
  refine RI.right ⟨h.typ, h.dates, h.id, h.alg, h.len, h.mask, h.mat, h.st, h.reason, h.msg, h.names, ⟨fun n hn => h.links.1 n (List.mem_of_mem_take hn), h.links.2.sublist (List.take_sublist _ _)⟩, h.custom, h.lim⟩ ?_
  simp only [List.length_take]
  omega
end Go.Proofs.YtdlkobmlnpijgaaDoor
