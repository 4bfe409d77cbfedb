/- Which objects may be, their bytes, what is read of bytes: plain laws. -/
import Derived.Test.YtdlkobmlnpijgaaDoorObjPlain
import Derived.Test.YtdlkobmlnpijgaaDoorOctBack
import Derived.Lib.ValidU
namespace Go.Proofs.YtdlkobmlnpijgaaDoor
open Go.RowKit
set_option linter.unusedVariables false
set_option linter.unusedSimpArgs false
/-- What is left to be read, and whether something lacked. -/
abbrev PS := List UInt8 × Bool
def pI (n : Int) (p : PS) : Int × PS := (asInt (num (taken p.1 p.2 n)), (restOf p.1 p.2 n, lackOf p.1 p.2 n))
def pS (p : PS) : List UInt8 × PS := (shortOf p.1 p.2, (shortRest p.1 p.2, shortLack p.1 p.2))
def pT (p : PS) : ByteArray × PS := (⟨(pS p).1.toArray⟩, (pS p).2)
def isHas (ref : Bool) (k : Int) : Bool := if ref then k == 1 else !(k == 0)
def dateP (ref : Bool) (p : PS) : (Bool × Int) × PS :=
  if isHas ref (pI 1 p).1 then ((true, (pI 8 (pI 1 p).2).1), (pI 8 (pI 1 p).2).2) else ((false, 0), (pI 1 p).2)
def rep {α : Type} (one : PS → α × PS) : Nat → PS → List α × PS
  | 0, p => ([], p)
  | n + 1, p => ((one p).1 :: (rep one n (one p).2).1, (rep one n (one p).2).2)
def many {α : Type} (one : PS → α × PS) : Nat → PS → List α × PS
  | 0, p => ([], p)
  | n + 1, p => if p.2 then ([], p) else ((one p).1 :: (many one n (one p).2).1, (many one n (one p).2).2)
def listP {α : Type} (one : PS → α × PS) (p : PS) : List α × PS := many one (pI 1 p).1.toNat (pI 1 p).2
def linkP (p : PS) : (Int × ByteArray) × PS := (((pI 1 p).1, (pT (pI 1 p).2).1), (pT (pI 1 p).2).2)
def custP (p : PS) : (ByteArray × ByteArray) × PS := (((pT p).1, (pT (pT p).2).1), (pT (pT p).2).2)
structure LimD where
  has : Bool := false
  total : Int := 0
  count : Int := 0
  unit : Int := 0
def limP (ref : Bool) (p : PS) : LimD × PS :=
  if isHas ref (pI 1 p).1 then
    let t := pI 8 (pI 1 p).2
    let c := pI 8 t.2
    let u := pI 1 c.2
    (⟨true, t.1, c.1, u.1⟩, u.2)
  else ({}, (pI 1 p).2)
/-- Read, but for its last test. -/
def parseO (ref : Bool) (p : PS) : ObjD × PS :=
  let i := pT p
  let ty := pI 1 i.2
  let al := pI 1 ty.2
  let le := pI 4 al.2
  let mk := pI 4 le.2
  let mt := pS mk.2
  let st := pI 1 mt.2
  let ds := rep (dateP ref) 10 st.2
  let re := pI 1 ds.2
  let ms := pT re.2
  let nm := listP pT ms.2
  let lk := listP linkP nm.2
  let cu := listP custP lk.2
  let li := limP ref cu.2
  let ar := pI 1 li.2
  ({ id := i.1, typ := ty.1, alg := al.1, len := le.1, mask := mk.1, mat := mt.1, st := st.1, dates := ds.1, reason := re.1, msg := ms.1, names := nm.1, links := lk.1, custom := cu.1,
     limHas := li.1.has, total := li.1.total, count := li.1.count, unit := li.1.unit, arch := ar.1 == 1 }, ar.2)
def flagN (b : Bool) : Nat := if b then 1 else 0
def shortB (l : List UInt8) : List UInt8 := be 2 l.length ++ l
def textB (s : ByteArray) : List UInt8 := shortB s.data.toList
def dateB (d : Bool × Int) : List UInt8 := be 1 (flagN d.1) ++ (if d.1 then be 8 (u64nat d.2) else [])
def linkB (x : Int × ByteArray) : List UInt8 := be 1 (u64nat x.1) ++ textB x.2
def custB (x : ByteArray × ByteArray) : List UInt8 := textB x.1 ++ textB x.2
def limB (O : ObjD) : List UInt8 := be 1 (flagN O.limHas) ++ (if O.limHas then be 8 (u64nat O.total) ++ (be 8 (u64nat O.count) ++ be 1 (u64nat O.unit)) else [])
/-- An object's bytes. -/
def layO (O : ObjD) : List UInt8 :=
  textB O.id ++ (be 1 (u64nat O.typ) ++ (be 1 (u64nat O.alg) ++ (be 4 (u64nat O.len) ++ (be 4 (u64nat O.mask) ++ (shortB O.mat ++ (be 1 (u64nat O.st) ++ (O.dates.flatMap dateB ++ (be 1 (u64nat O.reason) ++ (textB O.msg ++
    (be 1 O.names.length ++ (O.names.flatMap textB ++ (be 1 O.links.length ++ (O.links.flatMap linkB ++ (be 1 O.custom.length ++ (O.custom.flatMap custB ++ (limB O ++ be 1 (flagN O.arch)))))))))))))))))
def isT (s : ByteArray) : Bool := decide (1 ≤ s.size) && (decide (s.size ≤ 120) && Lib.validD s.data.toList)
def isC (s : ByteArray) : Bool := isT s && s.data.toList.take 2 == [120, 45]
def inB (n a b : Int) : Bool := decide (a ≤ n) && decide (n ≤ b)
def dateOk (d : Bool × Int) : Bool := if d.1 then inB d.2 (-1099511627776) 1099511627776 else d.2 == 0
def limOk (O : ObjD) : Bool := if O.limHas then inB O.total 1 1099511627776 && (inB O.count 0 O.total && inB O.unit 1 2) else O.total == 0 && (O.count == 0 && O.unit == 0)
/-- All of a list, at most so many, none twice. -/
def allO {α : Type} [DecidableEq α] (f : α → Bool) (most : Nat) (l : List α) : Bool := l.all f && (decide l.Nodup && decide (l.length ≤ most))
def linkOk (x : Int × ByteArray) : Bool := inB x.1 101 110 && isT x.2
def custOk (x : ByteArray × ByteArray) : Bool := isC x.1 && isT x.2
/-- May an object be? -/
def rightO (O : ObjD) : Bool :=
  (O.typ == 2 || (O.typ == 3 || (O.typ == 4 || O.typ == 7))) && (O.dates.all dateOk && (isT O.id && (inB O.alg 0 100 && (inB O.len 0 100000 && (inB O.mask 0 1048575 && (decide (O.mat.length ≤ 128) && (inB O.st 1 6 && (inB O.reason 0 7 &&
    ((decide (O.msg.size = 0) || (!(O.reason == 0) && isT O.msg)) && (allO isT 6 O.names && (allO linkOk 8 O.links && (allO custOk 6 O.custom && limOk O))))))))))))
theorem inB_iff {n a b : Int} : inB n a b = true ↔ a ≤ n ∧ n ≤ b := by unfold inB; simp
theorem pI_be {n : Nat} {z : Int} {r : List UInt8} (hn : n ≤ 8) (h0 : 0 ≤ z) (h1 : z < 256 ^ n) (h2 : z < 9223372036854775808) : pI (n : Int) (be n (u64nat z) ++ r, false) = (z, (r, false)) := by
  obtain ⟨k, rfl⟩ : ∃ k : Nat, z = (k : Int) := ⟨z.toNat, by omega⟩
  have hu : u64nat (k : Int) = k := u64nat_nat k (by omega)
  obtain ⟨a, b, c⟩ := take_be n (u64nat (k : Int)) r
  unfold pI
  simp only [a, b, c]
  have hk : k < 256 ^ n := by
    have h3 : ((256 ^ n : Nat) : Int) = (256 : Int) ^ n := by simp
    omega
  rw [num_be n _ hn, hu, Nat.mod_eq_of_lt hk, asInt_small _ (by omega)]
theorem pI_nat {n k : Nat} {r : List UInt8} (hn : n ≤ 8) (h1 : k < 256 ^ n) (h2 : k < 9223372036854775808) : pI (n : Int) (be n k ++ r, false) = ((k : Int), (r, false)) := by
  have h3 : ((256 ^ n : Nat) : Int) = (256 : Int) ^ n := by simp
  have h := pI_be (n := n) (z := (k : Int)) (r := r) hn (by omega) (by omega) (by omega)
  rwa [u64nat_nat k (by omega)] at h
theorem pI_8 {z : Int} {r : List UInt8} (h : -9223372036854775808 ≤ z ∧ z ≤ 9223372036854775807) : pI 8 (be 8 (u64nat z) ++ r, false) = (z, (r, false)) := by
  obtain ⟨a, b, c⟩ := take_be 8 (u64nat z) r
  have e : ((8 : Nat) : Int) = 8 := rfl
  rw [e] at a b c
  unfold pI
  simp only [a, b, c]
  have h4 : (256 : Nat) ^ 8 = 18446744073709551616 := by decide +kernel
  rw [num_be 8 _ (by decide), h4, Nat.mod_eq_of_lt (u64nat_lt z)]
  have : asInt (u64nat z) = z := by
    rw [← asInt_eq, ← u64nat_eq, IntKind.wrap_u64]; unfold wrap64; omega
  rw [this]
theorem p1 {z : Int} {r : List UInt8} (h : 0 ≤ z ∧ z ≤ 255) : pI 1 (be 1 (u64nat z) ++ r, false) = (z, (r, false)) := pI_be (n := 1) (by decide) h.1 (by have := h.2; show z < 256; omega) (by omega)
theorem p1n {k : Nat} {r : List UInt8} (h : k ≤ 255) : pI 1 (be 1 k ++ r, false) = ((k : Int), (r, false)) := pI_nat (n := 1) (by decide) (by show k < 256; omega) (by omega)
theorem p4 {z : Int} {r : List UInt8} (h : 0 ≤ z ∧ z ≤ 4294967295) : pI 4 (be 4 (u64nat z) ++ r, false) = (z, (r, false)) := pI_be (n := 4) (by decide) h.1 (by have := h.2; show z < 4294967296; omega) (by omega)
theorem pS_be {l r : List UInt8} (h : l.length ≤ 65535) : pS (shortB l ++ r, false) = (l, (r, false)) := by
  obtain ⟨a, b, c⟩ := take_short l r h
  unfold pS shortB
  simp only [a, b, c]
theorem pT_be {s : ByteArray} {r : List UInt8} (h : s.size ≤ 65535) : pT (textB s ++ r, false) = (s, (r, false)) := by
  unfold pT textB
  rw [pS_be (by simpa using h)]
theorem flag_has (ref b : Bool) : isHas ref ((flagN b : Nat) : Int) = b := by cases ref <;> cases b <;> rfl
theorem flag_le (b : Bool) : flagN b ≤ 255 := by cases b <;> decide
theorem dateP_be {ref : Bool} {d : Bool × Int} {r : List UInt8} (h : dateOk d = true) : dateP ref (dateB d ++ r, false) = (d, (r, false)) := by
  obtain ⟨b, z⟩ := d
  unfold dateP dateB
  rw [List.append_assoc, p1n (flag_le _), flag_has]
  cases b with
  | true =>
    have hz := inB_iff.1 (show inB z (-1099511627776) 1099511627776 = true from h)
    simp only [if_true, pI_8 (show -9223372036854775808 ≤ z ∧ z ≤ 9223372036854775807 by omega)]
  | false =>
    have hz : z = 0 := by have h2 : (z == 0) = true := h; simpa using h2
    subst hz
    rfl
theorem rep_be {α : Type} {one : PS → α × PS} {f : α → List UInt8} : ∀ (l : List α) (r : List UInt8), (∀ x ∈ l, ∀ r, one (f x ++ r, false) = (x, (r, false))) → rep one l.length (l.flatMap f ++ r, false) = (l, (r, false))
  | [], r, _ => rfl
  | x :: l, r, h => by
    rw [List.length_cons, rep, List.flatMap_cons, List.append_assoc, h x (by simp)]
    simp only [rep_be l r (fun y hy => h y (by simp [hy]))]
theorem many_be {α : Type} {one : PS → α × PS} {f : α → List UInt8} : ∀ (l : List α) (r : List UInt8), (∀ x ∈ l, ∀ r, one (f x ++ r, false) = (x, (r, false))) → many one l.length (l.flatMap f ++ r, false) = (l, (r, false))
  | [], r, _ => rfl
  | x :: l, r, h => by
    rw [List.length_cons, many, List.flatMap_cons, List.append_assoc, h x (by simp)]
    simp only [many_be l r (fun y hy => h y (by simp [hy]))]
    rfl
theorem listP_be {α : Type} {one : PS → α × PS} {f : α → List UInt8} (l : List α) (r : List UInt8) (hl : l.length ≤ 255) (h : ∀ x ∈ l, ∀ r, one (f x ++ r, false) = (x, (r, false))) : listP one (be 1 l.length ++ (l.flatMap f ++ r), false) = (l, (r, false)) := by
  unfold listP
  rw [p1n hl]
  exact many_be l r h
theorem isT_size {s : ByteArray} (h : isT s = true) : 1 ≤ s.size ∧ s.size ≤ 120 := by unfold isT at h; simp at h; exact ⟨h.1, h.2.1⟩
theorem allO_iff {α : Type} [DecidableEq α] {f : α → Bool} {m : Nat} {l : List α} : allO f m l = true ↔ (∀ x ∈ l, f x = true) ∧ l.Nodup ∧ l.length ≤ m := by unfold allO; simp
theorem limP_be {ref : Bool} {O : ObjD} {r : List UInt8} (h : limOk O = true) : limP ref (limB O ++ r, false) = (⟨O.limHas, O.total, O.count, O.unit⟩, (r, false)) := by
  unfold limP limB
  rw [List.append_assoc, p1n (flag_le _), flag_has]
  unfold limOk at h
  cases hb : O.limHas with
  | true =>
    rw [hb] at h
    simp only [if_true, Bool.and_eq_true, inB_iff] at h
    simp only [if_true, List.append_assoc]
    rw [pI_8 (by omega), pI_8 (by omega), p1 (by omega)]
  | false =>
    rw [hb] at h
    simp only [Bool.false_eq_true, if_false, Bool.and_eq_true, beq_iff_eq] at h
    simp only [Bool.false_eq_true, if_false, h, List.nil_append]
/-- THE LAW: what is laid of an object that may be is read as it. -/
theorem parse_lay (ref : Bool) (O : ObjD) (h : rightO O = true) (hd : O.dates.length = 10) : parseO ref (layO O, false) = (O, ([], false)) := by
  unfold rightO at h
  simp only [Bool.and_eq_true, inB_iff, allO_iff, decide_eq_true_eq, List.all_eq_true] at h
  obtain ⟨hty, hds, hid, hal, hle, hmk, hmt, hst, hre, hms, ⟨hn1, hn2, hn3⟩, ⟨hl1, hl2, hl3⟩, ⟨hc1, hc2, hc3⟩, hli⟩ := h
  have hty' : 0 ≤ O.typ ∧ O.typ ≤ 255 := by
    simp only [Bool.or_eq_true, beq_iff_eq] at hty
    omega
  have hms' : O.msg.size ≤ 65535 := by
    rw [Bool.or_eq_true, decide_eq_true_eq, Bool.and_eq_true] at hms
    rcases hms with h | h
    · omega
    · have := isT_size h.2; omega
  have eD : ∀ r, rep (dateP ref) 10 (O.dates.flatMap dateB ++ r, false) = (O.dates, (r, false)) := fun r => by
    have h := rep_be (one := dateP ref) (f := dateB) O.dates r (fun x hx r => dateP_be (hds x hx))
    rwa [hd] at h
  have eN : ∀ r, listP pT (be 1 O.names.length ++ (O.names.flatMap textB ++ r), false) = (O.names, (r, false)) := fun r => listP_be _ r (by omega) (fun x hx r => pT_be (by have := isT_size (hn1 x hx); omega))
  have eL : ∀ r, listP linkP (be 1 O.links.length ++ (O.links.flatMap linkB ++ r), false) = (O.links, (r, false)) := fun r => listP_be _ r (by omega) (fun x hx r => by
    have h := hl1 x hx
    unfold linkOk at h
    simp only [Bool.and_eq_true, inB_iff] at h
    have := isT_size h.2
    unfold linkP linkB
    rw [List.append_assoc, p1 (by omega), pT_be (by omega)])
  have eC : ∀ r, listP custP (be 1 O.custom.length ++ (O.custom.flatMap custB ++ r), false) = (O.custom, (r, false)) := fun r => listP_be _ r (by omega) (fun x hx r => by
    have h := hc1 x hx
    unfold custOk isC at h
    simp only [Bool.and_eq_true] at h
    have h1 := isT_size h.1.1
    have h2 := isT_size h.2
    unfold custP custB
    rw [List.append_assoc, pT_be (by omega), pT_be (by omega)])
  have eA : pI 1 (be 1 (flagN O.arch), false) = (((flagN O.arch : Nat) : Int), ([], false)) := by
    have h := p1n (k := flagN O.arch) (r := []) (flag_le _)
    rwa [List.append_nil] at h
  have hf : (((flagN O.arch : Nat) : Int) == 1) = O.arch := by cases O.arch <;> rfl
  have hT := isT_size hid
  have f1 : ∀ r, pT (textB O.id ++ r, false) = (O.id, (r, false)) := fun r => pT_be (by omega)
  have f2 : ∀ r, pI 1 (be 1 (u64nat O.typ) ++ r, false) = (O.typ, (r, false)) := fun r => p1 hty'
  have f3 : ∀ r, pI 1 (be 1 (u64nat O.alg) ++ r, false) = (O.alg, (r, false)) := fun r => p1 (by omega)
  have f4 : ∀ r, pI 4 (be 4 (u64nat O.len) ++ r, false) = (O.len, (r, false)) := fun r => p4 (by omega)
  have f5 : ∀ r, pI 4 (be 4 (u64nat O.mask) ++ r, false) = (O.mask, (r, false)) := fun r => p4 (by omega)
  have f6 : ∀ r, pS (shortB O.mat ++ r, false) = (O.mat, (r, false)) := fun r => pS_be (by omega)
  have f7 : ∀ r, pI 1 (be 1 (u64nat O.st) ++ r, false) = (O.st, (r, false)) := fun r => p1 (by omega)
  have f8 : ∀ r, pI 1 (be 1 (u64nat O.reason) ++ r, false) = (O.reason, (r, false)) := fun r => p1 (by omega)
  have f9 : ∀ r, pT (textB O.msg ++ r, false) = (O.msg, (r, false)) := fun r => pT_be hms'
  have fL : ∀ r, limP ref (limB O ++ r, false) = (⟨O.limHas, O.total, O.count, O.unit⟩, (r, false)) := fun r => limP_be hli
  unfold parseO layO
  simp only [f1, f2, f3, f4, f5, f6, f7, eD, f8, f9, eN, eL, eC, fL, eA, hf]
theorem lay_inj {O P : ObjD} (hO : rightO O = true) (hP : rightO P = true) (dO : O.dates.length = 10) (dP : P.dates.length = 10) (h : layO O = layO P) : O = P := by
  have h1 := parse_lay false O hO dO
  rw [h, parse_lay false P hP dP] at h1
  exact ((Prod.mk.inj h1).1).symm
/-- What bytes are read as. -/
def IsObj (b : List UInt8) (O : ObjD) : Prop := rightO O = true ∧ O.dates.length = 10 ∧ layO O = b
theorem isObj_one {b : List UInt8} {O P : ObjD} (h : IsObj b O) (k : IsObj b P) : O = P := lay_inj h.1 k.1 h.2.1 k.2.1 (h.2.2.trans k.2.2.symm)
theorem isObj_parse {b : List UInt8} {O : ObjD} (ref : Bool) (h : IsObj b O) : parseO ref (b, false) = (O, ([], false)) := by rw [← h.2.2]; exact parse_lay ref O h.1 h.2.1
end Go.Proofs.YtdlkobmlnpijgaaDoor
