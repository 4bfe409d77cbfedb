/- Arguments: an api.Object by value. -/
import Derived.Test.YtdlkobmlnpijgaaDoorOpen
import Derived.Test.YtdlkobmlnpijgaaDoorSame2
import Derived.Deep.Strs
namespace Go.Proofs.YtdlkobmlnpijgaaDoor
open Go.ChangeShapes Go.WideShapes Go.ChangeAt Go.RowKit
set_option linter.unusedVariables false
set_option linter.unusedSimpArgs false
set_option maxRecDepth 100000
set_option maxHeartbeats 4000000
theorem take_one {l : List Value} {k : Nat} (h : k < l.length) : (l.drop k).take 1 = [l.getD k undef] := by
  rw [List.drop_eq_getElem_cons h, List.take_succ_cons, List.take_zero, List.getD_eq_getElem?_getD, List.getElem?_eq_getElem h]; rfl
theorem take_two {l : List Value} {k : Nat} (h : k + 1 < l.length) : (l.drop k).take 2 = [l.getD k undef, l.getD (k + 1) undef] := by
  have e : l.getD k undef = l[k] := by simp [List.getD_eq_getElem?_getD, List.getElem?_eq_getElem (show k < l.length by omega)]
  rw [e, List.drop_eq_getElem_cons (by omega), List.take_succ_cons, take_one h]
theorem sl_lt {P : Program} {W : World} {b0 t e : TypeId} {a : Option Addr} {n c : Nat} (hu : P.underlying t = some (.slice e)) (h : Cell.okWide P W .any b0 t (.slice a n c)) : ∀ k ∈ (Sl.mk a n c).blk, k < W.heap.size := by
  intro k hk
  cases a with
  | none => simp [Sl.blk] at hk
  | some a =>
    simp [Sl.blk] at hk
    subst hk
    simp only [Cell.okWide, hu, Cell.ok] at h
    obtain ⟨_, _, _, _, row, cells, hs, _⟩ := h
    unfold World.shape? at hs
    rcases Nat.lt_or_ge a.block W.heap.size with h' | h'
    · exact h'
    · rw [Array.getElem?_eq_none h'] at hs
      simp at hs
section
variable {H : Type} {enc : TypeId × Value → H} {W : World} {held : Bool}
def StrE (cs : List Value) (x : ByteArray) : Prop := cs = [.string x]
def LinkE (cs : List Value) (x : Int × ByteArray) : Prop := cs = [.int .i64 x.1, .string x.2]
def CustE (cs : List Value) (x : ByteArray × ByteArray) : Prop := cs = [.string x.1, .string x.2]
theorem str_el (n : Nat) (cs : List Value) (d : DataW H) (p : List MemPlace) (h : DataW.trod enc Tryd.prog W 0 (fun _ => true) held n 9 cs = some (d, p)) (hw : ∀ q ∈ d.weights Tryd.prog 9, q ≤ reachBytes) : ∃ x, StrE cs x ∧ 0 ≤ Rows.uptoBulk d := by
  obtain ⟨s, rfl, _, _⟩ := DataW.trod_string Tryd.underlying9 h
  exact ⟨s, rfl, Nat.zero_le _⟩
theorem cellsLk : Tryd.prog.cellsOf 56 = 2 := by kernel_rfl
theorem cellsCu : Tryd.prog.cellsOf 58 = 2 := by kernel_rfl
theorem cellsSt : Tryd.prog.cellsOf 9 = 1 := by kernel_rfl
theorem cellsIn : Tryd.prog.cellsOf 3 = 1 := by kernel_rfl
theorem two_of {l : List Value} (h : l.length = 2) : ∃ a b, l = [a, b] := by
  match l, h with
  | [a, b], _ => exact ⟨a, b, rfl⟩
theorem link_el (n : Nat) (cs : List Value) (d : DataW H) (p : List MemPlace) (h : DataW.trod enc Tryd.prog W 0 (fun _ => true) held n 56 cs = some (d, p)) (hw : ∀ q ∈ d.weights Tryd.prog 56, q ≤ reachBytes) : ∃ x, LinkE cs x ∧ 0 ≤ Rows.uptoBulk d := by
  obtain ⟨xs, m, _, hx, hl, hlen, hf⟩ := DataW.trod_struct Tryd.underlying56 h
  rw [cellsLk] at hl
  obtain ⟨c0, c1, rfl⟩ := two_of hl
  have h0 : DataW.trod enc Tryd.prog W 0 (fun _ => true) held m 3 [c0] = xs[0]? := by simpa [cellsIn] using hf 0 _ rfl
  have h1 : DataW.trod enc Tryd.prog W 0 (fun _ => true) held m 9 [c1] = xs[1]? := by simpa [cellsSt] using hf 1 _ rfl
  have hlen' : xs.length = 2 := by simpa using hlen
  rw [List.getElem?_eq_getElem (by omega)] at h0 h1
  obtain ⟨z0, e0, _, w0⟩ := DataW.trod_int Tryd.underlying3 h0
  obtain ⟨s1, e1, _, _⟩ := DataW.trod_string Tryd.underlying9 h1
  simp at e0 e1
  subst e0 e1
  exact ⟨(z0, s1), rfl, Nat.zero_le _⟩
theorem cust_el (n : Nat) (cs : List Value) (d : DataW H) (p : List MemPlace) (h : DataW.trod enc Tryd.prog W 0 (fun _ => true) held n 58 cs = some (d, p)) (hw : ∀ q ∈ d.weights Tryd.prog 58, q ≤ reachBytes) : ∃ x, CustE cs x ∧ 0 ≤ Rows.uptoBulk d := by
  obtain ⟨xs, m, _, hx, hl, hlen, hf⟩ := DataW.trod_struct Tryd.underlying58 h
  rw [cellsCu] at hl
  obtain ⟨c0, c1, rfl⟩ := two_of hl
  have h0 : DataW.trod enc Tryd.prog W 0 (fun _ => true) held m 9 [c0] = xs[0]? := by simpa [cellsSt] using hf 0 _ rfl
  have h1 : DataW.trod enc Tryd.prog W 0 (fun _ => true) held m 9 [c1] = xs[1]? := by simpa [cellsSt] using hf 1 _ rfl
  have hlen' : xs.length = 2 := by simpa using hlen
  rw [List.getElem?_eq_getElem (by omega)] at h0 h1
  obtain ⟨s0, e0, _, _⟩ := DataW.trod_string Tryd.underlying9 h0
  obtain ⟨s1, e1, _, _⟩ := DataW.trod_string Tryd.underlying9 h1
  simp at e0 e1
  subst e0 e1
  exact ⟨(s0, s1), rfl, Nat.zero_le _⟩
end
theorem getD_of {α : Type} [Inhabited α] {l : List α} {j : Nat} (h : j < l.length) : l[j]? = some (l.getD j default) := by
  rw [List.getD_eq_getElem?_getD, List.getElem?_eq_getElem h]; rfl
theorem rd_str {W : World} {a : Option Addr} {n c : Nat} {l : List ByteArray} (h : ArgSl 1 StrE W (.slice a n c) l) : RdC W a (n * 1) (l.map Value.string) := by
  obtain ⟨a', n', c', e, hl, _, _, _, hr⟩ := h
  cases e
  refine ⟨by simp [hl], fun j hj => ?_⟩
  obtain ⟨b, off, _, rfl, _, _, _⟩ := hr j (by omega)
  refine ⟨b, off, rfl, fun i u hu => ?_⟩
  have hi : i < n := by
    have := (List.getElem?_eq_some_iff.1 hu).1
    simp at this
    omega
  obtain ⟨b2, off2, cs, e2, hcl, hc, hR⟩ := hr i hi
  cases e2
  have h0 := hc 0 (by decide)
  rw [hR] at h0
  rw [List.getElem?_map, getD_of (by omega)] at hu
  simp at hu h0
  rw [← hu]
  exact h0
theorem rd_pair {α : Type} [Inhabited α] {W : World} {a : Option Addr} {n c : Nat} {l : List α} (f g : α → Value) (h : ArgSl 2 (fun cs x => cs = [f x, g x]) W (.slice a n c) l) : RdC W a (n * 2) (l.flatMap fun x => [f x, g x]) := by
  obtain ⟨a', n', c', e, hl, _, _, _, hr⟩ := h
  cases e
  refine ⟨by rw [flat_len]; omega, fun j hj => ?_⟩
  obtain ⟨b, off, _, rfl, _, _, _⟩ := hr 0 (by omega)
  refine ⟨b, off, rfl, fun i u hu => ?_⟩
  have hi : i < n * 2 := by
    have := (List.getElem?_eq_some_iff.1 hu).1
    rw [flat_len] at this
    omega
  obtain ⟨b2, off2, cs, e2, hcl, hc, hR⟩ := hr (i / 2) (by omega)
  cases e2
  have hg := flat_get f g l (i / 2) _ (getD_of (by omega))
  rw [hR] at hc
  rcases Nat.mod_two_eq_zero_or_one i with hm | hm
  · have he : i / 2 * 2 = i := by omega
    have h0 := hc 0 (by decide)
    rw [he] at h0 hg
    rw [hg.1] at hu
    simp at h0 hu
    rw [← hu]; exact h0
  · have he : i / 2 * 2 + 1 = i := by omega
    have h0 := hc 1 (by decide)
    rw [he] at hg
    rw [hg.2] at hu
    rw [Nat.add_assoc, he] at h0
    simp at h0 hu
    rw [← hu]; exact h0
section
variable {H : Type} {enc : TypeId × Value → H} {W : World} {held : Bool}
theorem objTypes : Tryd.prog.cellTypes Tryd.prog.depth 35 = some [9, 3, 3, 3, 3, 22, 3, 4, 2, 4, 2, 4, 2, 4, 2, 4, 2, 4, 2, 4, 2, 4, 2, 4, 2, 4, 2, 3, 9, 29, 30, 31, 4, 2, 2, 3, 4] := by kernel_rfl
theorem cellsOb : Tryd.prog.cellsOf 35 = 37 := by kernel_rfl
theorem list37 {l : List Value} (h : l.length = 37) : l = (List.range 37).map fun k => l.getD k undef := by
  refine List.ext_getElem? fun i => ?_
  rcases Nat.lt_or_ge i 37 with hi | hi
  · rw [List.getElem?_map, List.getElem?_range hi, List.getElem?_eq_getElem (by omega)]
    simp [List.getD_eq_getElem?_getD, List.getElem?_eq_getElem (show i < l.length by omega)]
  · rw [List.getElem?_eq_none (by omega), List.getElem?_eq_none (by simp; omega)]
theorem bytes_ge1 : 1 ≤ Tryd.prog.bytesOf 9 ∧ 1 ≤ Tryd.prog.bytesOf 56 ∧ 1 ≤ Tryd.prog.bytesOf 58 := by
  have e1 : Tryd.prog.bytesOf 9 = 16 := by kernel_rfl
  have e2 : Tryd.prog.bytesOf 56 = 24 := by kernel_rfl
  have e3 : Tryd.prog.bytesOf 58 = 32 := by kernel_rfl
  omega
theorem open_Obj {b0 : Nat} {v : Value} {d : DataW H} {p : List MemPlace} (hval : Value.okWide Tryd.prog W .any b0 35 v)
    (h : DataW.Trod enc Tryd.prog W 0 (fun _ => true) held 35 v d p) (hw : ∀ n ∈ d.weights Tryd.prog 35, n ≤ reachBytes) :
    ∃ x : ObjD × ObjV, (v = .agg (objCells x.1 x.2) ∧ ObjM W x.1 x.2) ∧ 0 ≤ Rows.uptoBulk d := by
  simp only [Value.okWide, Tryd.underlying35] at hval
  obtain ⟨cs, rfl, hsz, ts, hts, _, hrow⟩ := hval
  rw [objTypes] at hts
  cases hts
  obtain ⟨fuel, hf0⟩ := h
  have hf : DataW.trod enc Tryd.prog W 0 (fun _ => true) held fuel 35 cs.toList = some (d, p) := hf0
  clear hf0
  obtain ⟨xs, m, _, hx, hl, hlen, hfl⟩ := DataW.trod_struct Tryd.underlying35 hf
  have hl' : cs.toList.length = 37 := by rw [cellsOb] at hl; exact hl
  have hsz' : cs.size = 37 := by rw [cellsOb] at hsz; exact hsz
  have hok : ∀ i, i < 37 → ∃ u, [9, 3, 3, 3, 3, 22, 3, 4, 2, 4, 2, 4, 2, 4, 2, 4, 2, 4, 2, 4, 2, 4, 2, 4, 2, 4, 2, 3, 9, 29, 30, 31, 4, 2, 2, 3, 4][i]? = some u ∧ Cell.okWide Tryd.prog W .any b0 u (cs.toList.getD i undef) := fun i hi => by
    obtain ⟨u, h1, h2⟩ := hrow i (cs.toList.getD i undef) (by
      rw [← Array.getElem?_toList, List.getD_eq_getElem?_getD, List.getElem?_eq_getElem (by omega)]; rfl)
    refine ⟨u, ?_, h2⟩
    have hm : i % 37 = i := Nat.mod_eq_of_lt hi
    rw [← h1]
    show _ = _[i % 37]?
    rw [hm]
  clear hrow hf
  have hgl := list37 hl'
  have hd := congrArg Prod.fst hx
  simp only at hd
  obtain ⟨l, HCS⟩ : ∃ l, cs.toList = l := ⟨_, rfl⟩
  rw [HCS] at hl' hok hgl hfl
  have h0 : DataW.trod enc Tryd.prog W 0 (fun _ => true) held m 9 [l.getD 0 undef] = xs[0]? := by
    rw [← take_one (by omega)]; exact hfl 0 _ rfl
  have h1 : DataW.trod enc Tryd.prog W 0 (fun _ => true) held m 3 [l.getD 1 undef] = xs[1]? := by
    rw [← take_one (by omega)]; exact hfl 1 _ rfl
  have h2 : DataW.trod enc Tryd.prog W 0 (fun _ => true) held m 3 [l.getD 2 undef] = xs[2]? := by
    rw [← take_one (by omega)]; exact hfl 2 _ rfl
  have h3 : DataW.trod enc Tryd.prog W 0 (fun _ => true) held m 3 [l.getD 3 undef] = xs[3]? := by
    rw [← take_one (by omega)]; exact hfl 3 _ rfl
  have h4 : DataW.trod enc Tryd.prog W 0 (fun _ => true) held m 3 [l.getD 4 undef] = xs[4]? := by
    rw [← take_one (by omega)]; exact hfl 4 _ rfl
  have h5 : DataW.trod enc Tryd.prog W 0 (fun _ => true) held m 22 [l.getD 5 undef] = xs[5]? := by
    rw [← take_one (by omega)]; exact hfl 5 _ rfl
  have h6 : DataW.trod enc Tryd.prog W 0 (fun _ => true) held m 3 [l.getD 6 undef] = xs[6]? := by
    rw [← take_one (by omega)]; exact hfl 6 _ rfl
  have h7 : DataW.trod enc Tryd.prog W 0 (fun _ => true) held m 28 ((l.drop 7).take 20) = xs[7]? := hfl 7 _ rfl
  have h8 : DataW.trod enc Tryd.prog W 0 (fun _ => true) held m 3 [l.getD 27 undef] = xs[8]? := by
    rw [← take_one (by omega)]; exact hfl 8 _ rfl
  have h9 : DataW.trod enc Tryd.prog W 0 (fun _ => true) held m 9 [l.getD 28 undef] = xs[9]? := by
    rw [← take_one (by omega)]; exact hfl 9 _ rfl
  have h10 : DataW.trod enc Tryd.prog W 0 (fun _ => true) held m 29 [l.getD 29 undef] = xs[10]? := by
    rw [← take_one (by omega)]; exact hfl 10 _ rfl
  have h11 : DataW.trod enc Tryd.prog W 0 (fun _ => true) held m 30 [l.getD 30 undef] = xs[11]? := by
    rw [← take_one (by omega)]; exact hfl 11 _ rfl
  have h12 : DataW.trod enc Tryd.prog W 0 (fun _ => true) held m 31 [l.getD 31 undef] = xs[12]? := by
    rw [← take_one (by omega)]; exact hfl 12 _ rfl
  have h13 : DataW.trod enc Tryd.prog W 0 (fun _ => true) held m 33 ((l.drop 32).take 4) = xs[13]? := hfl 13 _ rfl
  have h14 : DataW.trod enc Tryd.prog W 0 (fun _ => true) held m 4 [l.getD 36 undef] = xs[14]? := by
    rw [← take_one (by omega)]; exact hfl 14 _ rfl
  have hlen' : xs.length = 15 := hlen
  clear hfl hlen
  match xs, hlen' with
  | [y0, y1, y2, y3, y4, y5, y6, y7, y8, y9, y10, y11, y12, y13, y14], _ =>
    simp only [List.getElem?_cons_zero, List.getElem?_cons_succ] at h0 h1 h2 h3 h4 h5 h6 h7 h8 h9 h10 h11 h12 h13 h14
    have hw5 : ∀ q ∈ y5.1.weights Tryd.prog 22, q ≤ reachBytes := fun q hq => hw q (by
      rw [hd]
      simp only [DataW.weights, Tryd.underlying35]
      simp only [List.map_cons, List.map_nil, DataW.weightsEach, List.mem_append]
      simp [hq])
    have hw10 : ∀ q ∈ y10.1.weights Tryd.prog 29, q ≤ reachBytes := fun q hq => hw q (by
      rw [hd]
      simp only [DataW.weights, Tryd.underlying35]
      simp only [List.map_cons, List.map_nil, DataW.weightsEach, List.mem_append]
      simp [hq])
    have hw11 : ∀ q ∈ y11.1.weights Tryd.prog 30, q ≤ reachBytes := fun q hq => hw q (by
      rw [hd]
      simp only [DataW.weights, Tryd.underlying35]
      simp only [List.map_cons, List.map_nil, DataW.weightsEach, List.mem_append]
      simp [hq])
    have hw12 : ∀ q ∈ y12.1.weights Tryd.prog 31, q ≤ reachBytes := fun q hq => hw q (by
      rw [hd]
      simp only [DataW.weights, Tryd.underlying35]
      simp only [List.map_cons, List.map_nil, DataW.weightsEach, List.mem_append]
      simp [hq])
    obtain ⟨s0, e0, _, _⟩ := DataW.trod_string Tryd.underlying9 h0
    obtain ⟨z1, e1, _, _⟩ := DataW.trod_int Tryd.underlying3 h1
    obtain ⟨z2, e2, _, _⟩ := DataW.trod_int Tryd.underlying3 h2
    obtain ⟨z3, e3, _, _⟩ := DataW.trod_int Tryd.underlying3 h3
    obtain ⟨z4, e4, _, _⟩ := DataW.trod_int Tryd.underlying3 h4
    obtain ⟨z6, e6, _, _⟩ := DataW.trod_int Tryd.underlying3 h6
    obtain ⟨z8, e8, _, _⟩ := DataW.trod_int Tryd.underlying3 h8
    obtain ⟨s9, e9, _, _⟩ := DataW.trod_string Tryd.underlying9 h9
    obtain ⟨b14, e14, _⟩ := DataW.trod_bool Tryd.underlying4 h14
    obtain ⟨v5, l5, e5, ⟨a5, n5, c5, rfl, hr5, hn5, hc5, hz5⟩, _⟩ := core_argB (d := y5.1) (p := y5.2) h5 hw5
    obtain ⟨v10, l10, e10, hA10, _⟩ := core_sl (d := y10.1) (p := y10.2) Tryd.underlying29 cellsSt (by decide) bytes_ge1.1 StrE (fun _ => 0) str_el h10 hw10
    obtain ⟨v11, l11, e11, hA11, _⟩ := core_sl (d := y11.1) (p := y11.2) Tryd.underlying30 cellsLk (by decide) bytes_ge1.2.1 LinkE (fun _ => 0) link_el h11 hw11
    obtain ⟨v12, l12, e12, hA12, _⟩ := core_sl (d := y12.1) (p := y12.2) Tryd.underlying31 cellsCu (by decide) bytes_ge1.2.2 CustE (fun _ => 0) cust_el h12 hw12
    have hB10 := hA10
    obtain ⟨a10, n10, c10, rfl, hl10, hn10, hc10, hz10, _⟩ := hB10
    have hB11 := hA11
    obtain ⟨a11, n11, c11, rfl, hl11, hn11, hc11, hz11, _⟩ := hB11
    have hB12 := hA12
    obtain ⟨a12, n12, c12, rfl, hl12, hn12, hc12, hz12, _⟩ := hB12
    obtain ⟨ds, md, _, _, hdl, hdn, hdd⟩ := DataW.trod_array Tryd.underlying28 h7
    have cD : Tryd.prog.cellsOf 27 = 2 := by kernel_rfl
    rw [cD] at hdd
    have hD : ∀ i, i < 10 → ∃ (b : Bool) (z : Int), l.getD (7 + i * 2) undef = .bool b ∧ l.getD (7 + i * 2 + 1) undef = .int .i64 z := fun i hi => by
      have hq := hdd i hi
      have e : (((l.drop 7).take 20).drop (i * 2)).take 2 = [l.getD (7 + i * 2) undef, l.getD (7 + i * 2 + 1) undef] := by
        rw [List.drop_take, List.drop_drop, List.take_take, Nat.min_eq_left (by omega)]
        exact take_two (by omega)
      rw [e, List.getElem?_eq_getElem (by omega)] at hq
      obtain ⟨ys, mm, _, _, _, hyl, hyf⟩ := DataW.trod_struct Tryd.underlying27 hq
      have cB : Tryd.prog.cellsOf 4 = 1 := by kernel_rfl
      have cI : Tryd.prog.cellsOf 2 = 1 := by kernel_rfl
      have g0 : DataW.trod enc Tryd.prog W 0 (fun _ => true) held mm 4 [l.getD (7 + i * 2) undef] = ys[0]? := by simpa [cB] using hyf 0 _ rfl
      have g1 : DataW.trod enc Tryd.prog W 0 (fun _ => true) held mm 2 [l.getD (7 + i * 2 + 1) undef] = ys[1]? := by simpa [cI] using hyf 1 _ rfl
      have hyl' : ys.length = 2 := hyl
      rw [List.getElem?_eq_getElem (by omega)] at g0 g1
      obtain ⟨b, eb, _⟩ := DataW.trod_bool Tryd.underlying4 g0
      obtain ⟨z, ez, _, _⟩ := DataW.trod_int Tryd.underlying2 g1
      simp only [List.cons.injEq, and_true] at eb ez
      exact ⟨b, z, eb, ez⟩
    obtain ⟨db0, dz0, de0, df0⟩ := hD 0 (by decide)
    obtain ⟨db1, dz1, de1, df1⟩ := hD 1 (by decide)
    obtain ⟨db2, dz2, de2, df2⟩ := hD 2 (by decide)
    obtain ⟨db3, dz3, de3, df3⟩ := hD 3 (by decide)
    obtain ⟨db4, dz4, de4, df4⟩ := hD 4 (by decide)
    obtain ⟨db5, dz5, de5, df5⟩ := hD 5 (by decide)
    obtain ⟨db6, dz6, de6, df6⟩ := hD 6 (by decide)
    obtain ⟨db7, dz7, de7, df7⟩ := hD 7 (by decide)
    obtain ⟨db8, dz8, de8, df8⟩ := hD 8 (by decide)
    obtain ⟨db9, dz9, de9, df9⟩ := hD 9 (by decide)
    obtain ⟨ws, mw, _, _, _, hwl, hwf⟩ := DataW.trod_struct Tryd.underlying33 h13
    have hwl' : ws.length = 4 := hwl
    have hL : ∀ i t, i < 4 → (#[4, 2, 2, 3] : Array TypeId)[i]? = some t → DataW.trod enc Tryd.prog W 0 (fun _ => true) held mw t [l.getD (32 + i) undef] = ws[i]? := fun i t hi ht => by
      have e : (((l.drop 32).take 4).drop i).take 1 = [l.getD (32 + i) undef] := by
        rw [List.drop_take, List.drop_drop, List.take_take, Nat.min_eq_left (by omega)]
        exact take_one (by omega)
      rw [← e]
      match i, ht with
      | 0, ht => cases ht; exact hwf 0 _ rfl
      | 1, ht => cases ht; exact hwf 1 _ rfl
      | 2, ht => cases ht; exact hwf 2 _ rfl
      | 3, ht => cases ht; exact hwf 3 _ rfl
      | i + 4, ht => simp at ht
    have g0 := hL 0 _ (by decide) rfl
    have g1 := hL 1 _ (by decide) rfl
    have g2 := hL 2 _ (by decide) rfl
    have g3 := hL 3 _ (by decide) rfl
    rw [List.getElem?_eq_getElem (by omega)] at g0 g1 g2 g3
    obtain ⟨lb, q0, _⟩ := DataW.trod_bool Tryd.underlying4 g0
    obtain ⟨lt, q1, _, _⟩ := DataW.trod_int Tryd.underlying2 g1
    obtain ⟨lc, q2, _, _⟩ := DataW.trod_int Tryd.underlying2 g2
    obtain ⟨lu, q3, _, _⟩ := DataW.trod_int Tryd.underlying3 g3
    simp only [Nat.add_zero, Nat.reduceAdd, Nat.reduceMul, Nat.zero_mul] at q0 q1 q2 q3 de0 df0 de1 df1 de2 df2 de3 df3 de4 df4 de5 df5 de6 df6 de7 df7 de8 df8 de9 df9
    simp only [List.cons.injEq, and_true] at q0 q1 q2 q3 e0 e1 e2 e3 e4 e5 e6 e8 e9 e10 e11 e12 e14
    refine ⟨({ id := s0, typ := z1, alg := z2, len := z3, mask := z4, mat := l5, st := z6, dates := [(db0, dz0), (db1, dz1), (db2, dz2), (db3, dz3), (db4, dz4), (db5, dz5), (db6, dz6), (db7, dz7), (db8, dz8), (db9, dz9)], reason := z8, msg := s9, names := l10, links := l11, custom := l12, limHas := lb, total := lt, count := lc, unit := lu, arch := b14 }, { mat := ⟨a5, n5, c5⟩, names := ⟨a10, n10, c10⟩, links := ⟨a11, n11, c11⟩, custom := ⟨a12, n12, c12⟩ }), ⟨?_, ?_⟩, Nat.zero_le _⟩
    · refine congrArg Value.agg (Array.toList_inj.1 ?_)
      have hll : cs.toList = l := HCS
      rw [hll, hgl]
      show [l.getD 0 undef, l.getD 1 undef, l.getD 2 undef, l.getD 3 undef, l.getD 4 undef, l.getD 5 undef, l.getD 6 undef, l.getD 7 undef, l.getD 8 undef, l.getD 9 undef, l.getD 10 undef, l.getD 11 undef, l.getD 12 undef, l.getD 13 undef, l.getD 14 undef, l.getD 15 undef, l.getD 16 undef, l.getD 17 undef, l.getD 18 undef, l.getD 19 undef, l.getD 20 undef, l.getD 21 undef, l.getD 22 undef, l.getD 23 undef, l.getD 24 undef, l.getD 25 undef, l.getD 26 undef, l.getD 27 undef, l.getD 28 undef, l.getD 29 undef, l.getD 30 undef, l.getD 31 undef, l.getD 32 undef, l.getD 33 undef, l.getD 34 undef, l.getD 35 undef, l.getD 36 undef] = _
      rw [e0, e1, e2, e3, e4, e5, e6, e8, e9, e10, e11, e12, e14, de0, df0, de1, df1, de2, df2, de3, df3, de4, df4, de5, df5, de6, df6, de7, df7, de8, df8, de9, df9, q0, q1, q2, q3]
      rfl
    · refine ⟨?_, ?_, ?_, ?_, rfl⟩
      · obtain ⟨u, hu, hc⟩ := hok 5 (by decide)
        cases hu
        rw [e5] at hc
        exact ⟨(by have := hr5.toC; simpa using this), hz5, by show n5 ≤ 140737488355328; omega, sl_lt Tryd.underlying22 hc, hn5⟩
      · obtain ⟨u, hu, hc⟩ := hok 29 (by decide)
        cases hu
        rw [e10] at hc
        exact ⟨(rd_str hA10), hz10, by show n10 ≤ 140737488355328; omega, sl_lt Tryd.underlying29 hc, hn10⟩
      · obtain ⟨u, hu, hc⟩ := hok 30 (by decide)
        cases hu
        rw [e11] at hc
        exact ⟨(rd_pair (fun x : Int × ByteArray => Value.int .i64 x.1) (fun x => .string x.2) hA11), hz11, by show n11 ≤ 140737488355328; omega, sl_lt Tryd.underlying30 hc, hn11⟩
      · obtain ⟨u, hu, hc⟩ := hok 31 (by decide)
        cases hu
        rw [e12] at hc
        exact ⟨(rd_pair (fun x : ByteArray × ByteArray => Value.string x.1) (fun x => .string x.2) hA12), hz12, by show n12 ≤ 140737488355328; omega, sl_lt Tryd.underlying31 hc, hn12⟩
end
end Go.Proofs.YtdlkobmlnpijgaaDoor
