/- Calls of Parse: what is answered. -/
import Derived.Test.YtbnbofooofedkaaDoorItemR
import Derived.Test.YtbnbofooofedkaaDoorPay13
namespace Go.Proofs.YtbnbofooofedkaaDoor
open Go.RowKit
set_option linter.unusedVariables false
set_option linter.unusedSimpArgs false
set_option maxRecDepth 100000
set_option maxHeartbeats 1600000
def numV (l : List Itm) (o : Int) : Int := match l with
 | [] => o
 | x :: _ => x.int
def needF (t k : Int) : Fld := { tag := t, typ := k, need := true }
def maybeF (t k : Int) : Fld := { tag := t, typ := k }
def manyF (t k : Int) : Fld := { tag := t, typ := k, many := true }
def firstI (l : List Itm) : Itm := l.headD {}
/-- What is parsed: as many rows as fields, none empty that must be. -/
theorem parse_rows {l : List Fld} {i : Itm} {r : List (List Itm)} (h : parseV l i = .ok r) : r.length = l.length ∧ ∀ (k : Nat) (f : Fld), l[k]? = some f → f.need = true → ∃ x t, r[k]? = some (x :: t) := by
 unfold parseV at h
 split at h
 ·cases h
 ·split at h
  ·cases h
  ·rename_i st hk
   split at h
   ·cases h
   ·rename_i hm
    simp only [Except.ok.injEq] at h
    subst h
    have hl : st.2.length = l.length := by
     have := parseKids_len (l := l) _ _ _ hk
     simpa using this
    refine ⟨hl, fun k f hf hn => ?_⟩
    have hkl := (List.getElem?_eq_some_iff.1 hf).1
    have hlt : k < st.2.length := by omega
    have hmk : missK l st.2 k = false := by
     cases hq : missK l st.2 k with
     | false => rfl
     | true => exact absurd (missing_yes hkl hq) hm
    unfold missK at hmk
    rw [List.getD_eq_getElem?_getD, hf, List.getD_eq_getElem?_getD, List.getElem?_eq_getElem hlt] at hmk
    simp only [Option.getD_some, hn, Bool.true_and] at hmk
    rw [List.getElem?_eq_getElem hlt]
    cases hx : st.2[k] with
    | nil => rw [hx] at hmk; cases hmk
    | cons x t => exact ⟨x, t, rfl⟩
theorem rows2 {r : List (List Itm)} (h : r.length = 2) : ∃ a b, r = [a, b] := by
 match r, h with
 | [a, b], _ => exact ⟨a, b, rfl⟩
theorem rows3 {r : List (List Itm)} (h : r.length = 3) : ∃ a b c, r = [a, b, c] := by
 match r, h with
 | [a, b, c], _ => exact ⟨a, b, c, rfl⟩
theorem rows5 {r : List (List Itm)} (h : r.length = 5) : ∃ a b c d e, r = [a, b, c, d, e] := by
 match r, h with
 | [a, b, c, d, e], _ => exact ⟨a, b, c, d, e, rfl⟩
theorem parse_code {l : List Fld} {i : Itm} {c : Int} (h : parseV l i = .error c) : (c == 0) = false := by
 have step : ∀ (kids : List Itm) (st : Nat × List (List Itm)) (c : Int), kids.foldlM (parseStep l) st = .error c → c = 4 ∨ c = 7 := by
  intro kids
  induction kids with
  | nil => intro st c h; cases h
  | cons x r ih =>
   intro st c h
   rw [List.foldlM_cons] at h
   cases hs : parseStep l st x with
   | error e =>
    rw [hs] at h
    obtain rfl : e = c := by injection h
    unfold parseStep at hs
    split at hs
    ·left; injection hs with h; exact h.symm
    ·split at hs
     ·left; injection hs with h; exact h.symm
     ·split at hs
      ·right; injection hs with h; exact h.symm
      ·cases hs
   | ok s1 => rw [hs] at h; exact ih s1 c h
 have h3 : c = 4 ∨ c = 7 ∨ c = 6 := by
  unfold parseV at h
  split at h
  ·injection h with h; omega
  ·split at h
   ·rename_i e he
    injection h with h
    subst h
    rcases step _ _ _ he with h | h <;> simp [h]
   ·split at h
    ·injection h with h; omega
    ·cases h
 rcases h3 with rfl | rfl | rfl <;> rfl
theorem SlR.builtF {w : World} {T : TypeId} {C : Array Value} {L : List Fld} (hC : C.toList = fldCells L) {n : Nat} (hn : L.length = n) (hs : n ≤ 1099511627776) : SlR (w.alloc (.cells C T)) ⟨some ⟨w.heap.size, 0, none⟩, n, n⟩ 4 (fldCells L) :=
 ⟨RdC.new _ _ _ _ _ hC _ (by rw [fld_len, hn]) _ rfl, by simp, hs, by simp [Sl.blk], Nat.le_refl _⟩
def stF (L : List Fld) : St Grow := ⟨fun v w => ∃ s : Sl, v = .slice s.a s.n s.c ∧ SlR w s 4 (fldCells L), fun v w w' h hg => let ⟨s, e, h1⟩ := h; ⟨s, e, h1.below hg⟩⟩
theorem wp_build_flds {P : Program} {o : Oper} {a : Act} {w : World} {K : Act → World → Prop} {Q : Exit → Act → World → Prop} (T E : TypeId) (n : Nat) (ps : Array (Nat × Operand)) (ho : o.op = .buildSlice T n ps) (L : List Fld) (hn : L.length = n) (h0 : 0 < n) (h9 : n ≤ 100)
  (hx : (ps.map fun (i, x) => (i, a.eval x)).toList = (L.zipIdx 0).map fun x => (x.2, Value.agg x.1.arr)) (C : Array Value) (hC : C.toList = fldCells L)
  (i : TypeInfo) (hu : P.underlying T = some (.slice E)) (hi : P.info? E = some i) (hz : i.zero = some (.agg fldZ.arr)) (hs : i.size = 4)
  (hf : Instr.fill (fun i => some (i * 4, 4)) ((Array.range (n * 4)).map (fldZ.arr[· % fldZ.arr.size]!)) ((L.zipIdx 0).map fun x => (x.2, Value.agg x.1.arr)) = some C)
  (h : ∀ s : Sl, SlR (w.alloc (.cells C E)) s 4 (fldCells L) → K (a.put o.dst (.slice s.a s.n s.c)) (w.alloc (.cells C E))) : o.wp P a w K Q := by
 refine wp_buildSlice T E n _ ho C i _ hu hi hz (by rw [hs]; omega) (by rw [hs]; omega) ?_ (h ⟨_, _, _⟩ (SlR.builtF hC hn (by omega)))
 rw [hs, hx]
 exact hf
theorem fInfo : (Tryd.prog.info? 52).map (fun i => (i.zero, i.size, i.bytes)) = some (some (.agg fldZ.arr), 4, 24) := by kernel_rfl
/-- A row of rows: the first item of one that is not empty. -/
theorem Rows2.head {T1 T : TypeId} {w : World} {base low : Nat} {s : Sl} {sls : List Sl} {rv : List (List ItV)} {rows : List (List Itm)} (h : Rows2 T1 T w base low s sls rv) (hr : rv.map (fun l => l.map ItV.it) = rows) (hn : ∀ sl ∈ sls, sl.n ≤ 1099511627776) {k : Nat} {x : Itm} {t : List Itm} (hk : rows[k]? = some (x :: t)) :
  ∃ (sl : Sl) (l : List ItV) (g g2 : Nat) (v : ItV), sl.a = some ⟨g2, 0, none⟩ ∧ l.map ItV.it = x :: t ∧ SlR w sl 5 (itmCells l) ∧ s.a = some ⟨g, 0, none⟩ ∧ w.cell? ⟨g, k, none⟩ = some (.slice sl.a sl.n sl.c) ∧ 1 ≤ sl.n ∧ v.it = x ∧ w.rangeAt g2 0 v.arr.toList ∧ v.ok w ∧ (∀ k ∈ v.foot, low ≤ k) ∧ sl.n = t.length + 1 := by
 obtain ⟨sl, l, g, hs, hl, hm, ho, hsn, hg, hc, hks⟩ := h.at hr hk
 have hsl := ho.sl (hn sl (List.mem_of_getElem? hs))
 have hsn1 : sl.n = t.length + 1 := by rw [hsn]; rfl
 obtain ⟨b, off, v, ha, hv, hrg⟩ := hsl.row (k := 0) (by omega)
 obtain ⟨g2, hg2, _, _⟩ := (own_slice ho.own).2.2 (by omega)
 rw [hg2] at ha
 simp only [Option.some.injEq, Addr.mk.injEq] at ha
 obtain ⟨rfl, rfl, _⟩ := ha
 have hvm := List.mem_of_getElem? hv
 have hvx : v.it = x := by
  have := congrArg (fun l => l[0]?) hm
  simpa [hv] using this
 exact ⟨sl, l, g, g2, v, hg2, hm, hsl, hg, hc, by omega, hvx, by have h := hrg; rw [Nat.zero_mul, Nat.add_zero] at h; exact h, ho.ok v hvm, ho.low v hvm, hsn1⟩
/-- .. of one that may be. -/
theorem Rows2.any {T1 T : TypeId} {w : World} {base low : Nat} {s : Sl} {sls : List Sl} {rv : List (List ItV)} {rows : List (List Itm)} (h : Rows2 T1 T w base low s sls rv) (hr : rv.map (fun l => l.map ItV.it) = rows) (hn : ∀ sl ∈ sls, sl.n ≤ 1099511627776) {k : Nat} {t : List Itm} (hk : rows[k]? = some t) :
  ∃ (sl : Sl) (l : List ItV) (g : Nat), l.map ItV.it = t ∧ SlR w sl 5 (itmCells l) ∧ s.a = some ⟨g, 0, none⟩ ∧ w.cell? ⟨g, k, none⟩ = some (.slice sl.a sl.n sl.c) ∧ sl.n = t.length ∧ (∀ v ∈ l, v.ok w ∧ ∀ k ∈ v.foot, low ≤ k) := by
 obtain ⟨sl, l, g, hs, hl, hm, ho, hsn, hg, hc, hks⟩ := h.at hr hk
 exact ⟨sl, l, g, hm, ho.sl (hn sl (List.mem_of_getElem? hs)), hg, hc, hsn, fun v hv => ⟨ho.ok v hv, ho.low v hv⟩⟩
theorem Rows2.lower {T1 T : TypeId} {w : World} {base low base' low' : Nat} {s : Sl} {sls : List Sl} {rv : List (List ItV)} (h : Rows2 T1 T w base low s sls rv) (hb : base' ≤ base) (hl : low' ≤ low) : Rows2 T1 T w base' low' s sls rv :=
 ⟨ownsRow_base h.own (fun k hk => by have := (h.own.lt k hk).1; omega), h.len,
  fun k sl l hs hl' => let o := h.each k sl l hs hl'; ⟨ownsRow_base o.own (fun k hk => by have := (o.own.lt k hk).1; omega), o.ok, o.apart, fun x hx k hk => Nat.le_trans hl (o.low x hx k hk)⟩, h.apart, h.cross, h.outer⟩
/-- Rows that stand: what they read as. -/
def RowsOk (T1 T : TypeId) (base low : Nat) (rows : List (List Itm)) (so : Sl) (w : World) : Prop :=
 ∃ (sls : List Sl) (rv : List (List ItV)), Rows2 T1 T w base low so sls rv ∧ rv.map (fun l => l.map ItV.it) = rows ∧ ∀ sl ∈ sls, sl.n ≤ 1099511627776
theorem RowsOk.below {T1 T : TypeId} {base low : Nat} {rows : List (List Itm)} {so : Sl} {w w' : World} (h : RowsOk T1 T base low rows so w) (hb : Below w.heap.size w w') : RowsOk T1 T base low rows so w' :=
 let ⟨sls, rv, h1, h2, h3⟩ := h; ⟨sls, rv, h1.below hb, h2, h3⟩
def stRows (T1 T : TypeId) (base low : Nat) (rows : List (List Itm)) : St Grow := ⟨fun v w => ∃ so : Sl, v = .slice so.a so.n so.c ∧ RowsOk T1 T base low rows so w, fun v w w' h hg => let ⟨so, e, h1⟩ := h; ⟨so, e, h1.below hg⟩⟩
def stRowsT (T1 T : TypeId) (base low : Nat) (rows : List (List Itm)) : St Grow := ⟨fun v w => ∃ so : Sl, v = .tuple #[.slice so.a so.n so.c, .int .i64 0] ∧ RowsOk T1 T base low rows so w, fun v w w' h hg => let ⟨so, e, h1⟩ := h; ⟨so, e, h1.below hg⟩⟩
theorem parsed_err {T1 T : TypeId} {r : Except Int (List (List Itm))} {w : World} {e : Ending} {w' : World} {c : Int} (h : Parsed T1 T r w e w') (hr : r = .error c) : e = .returned (.tuple #[.slice none 0 0, .int .i64 c]) ∧ Below w.heap.size w w' := by
 subst hr; exact h
theorem parsed_ok {T1 T : TypeId} {r : Except Int (List (List Itm))} {w : World} {e : Ending} {w' : World} {rows : List (List Itm)} {z : Nat} (h : Parsed T1 T r w e w') (hr : r = .ok rows) (hz : z ≤ w.heap.size) :
  ∃ so : Sl, e = .returned (.tuple #[.slice so.a so.n so.c, .int .i64 0]) ∧ RowsOk T1 T z z rows so w' ∧ Below w.heap.size w w' := by
 subst hr
 obtain ⟨so, sls, rv, he, h1, h2, h3, h4⟩ := h
 exact ⟨so, he, ⟨sls, rv, h1.lower hz hz, h2, h3⟩, h4⟩
theorem parsedR_err {F : Nat → Prop} {T1 T : TypeId} {r : Except Int (List (List Itm))} {w : World} {e : Ending} {w' : World} {c : Int} (h : ParsedR F T1 T r w e w') (hr : r = .error c) : e = .returned (.tuple #[.slice none 0 0, .int .i64 c]) ∧ Below w.heap.size w w' := by
 subst hr; exact h
/-- Rows whose items are shared: the blocks that they reach were there. -/
def RowsOkR (F : Nat → Prop) (T1 T : TypeId) (base : Nat) (rows : List (List Itm)) (so : Sl) (w : World) : Prop :=
 ∃ (sls : List Sl) (rv : List (List ItV)), Rows2 T1 T w base 0 so sls rv ∧ rv.map (fun l => l.map ItV.it) = rows ∧ (∀ sl ∈ sls, sl.n ≤ 1099511627776) ∧ ∀ lr ∈ rv, ∀ x ∈ lr, ∀ k ∈ x.foot, F k
theorem RowsOkR.below {F : Nat → Prop} {T1 T : TypeId} {base : Nat} {rows : List (List Itm)} {so : Sl} {w w' : World} (h : RowsOkR F T1 T base rows so w) (hb : Below w.heap.size w w') : RowsOkR F T1 T base rows so w' :=
 let ⟨sls, rv, h1, h2, h3, h4⟩ := h; ⟨sls, rv, h1.below hb, h2, h3, h4⟩
def stRowsR (F : Nat → Prop) (T1 T : TypeId) (base : Nat) (rows : List (List Itm)) : St Grow := ⟨fun v w => ∃ so : Sl, v = .slice so.a so.n so.c ∧ RowsOkR F T1 T base rows so w, fun v w w' h hg => let ⟨so, e, h1⟩ := h; ⟨so, e, h1.below hg⟩⟩
def stRowsTR (F : Nat → Prop) (T1 T : TypeId) (base : Nat) (rows : List (List Itm)) : St Grow := ⟨fun v w => ∃ so : Sl, v = .tuple #[.slice so.a so.n so.c, .int .i64 0] ∧ RowsOkR F T1 T base rows so w, fun v w w' h hg => let ⟨so, e, h1⟩ := h; ⟨so, e, h1.below hg⟩⟩
theorem parsedR_ok {F : Nat → Prop} {T1 T : TypeId} {r : Except Int (List (List Itm))} {w : World} {e : Ending} {w' : World} {rows : List (List Itm)} {z : Nat} (h : ParsedR F T1 T r w e w') (hr : r = .ok rows) (hz : z ≤ w.heap.size) :
  ∃ so : Sl, e = .returned (.tuple #[.slice so.a so.n so.c, .int .i64 0]) ∧ RowsOkR F T1 T z rows so w' ∧ Below w.heap.size w w' := by
 subst hr
 obtain ⟨so, sls, rv, he, h1, h2, h3, h4, h5⟩ := h
 exact ⟨so, he, ⟨sls, rv, h1.lower hz (Nat.le_refl _), h2, h3, h5⟩, h4⟩
theorem RowsOkR.ok {F : Nat → Prop} {T1 T : TypeId} {base : Nat} {rows : List (List Itm)} {so : Sl} {w : World} (h : RowsOkR F T1 T base rows so w) : RowsOk T1 T base 0 rows so w :=
 let ⟨sls, rv, h1, h2, h3, _⟩ := h; ⟨sls, rv, h1, h2, h3⟩
theorem RowsOk.shape {T1 T : TypeId} {base low : Nat} {rows : List (List Itm)} {so : Sl} {w : World} (h : RowsOk T1 T base low rows so w) (h0 : 0 < rows.length) : ∃ g c, so = ⟨some ⟨g, 0, none⟩, rows.length, c⟩ := by
 obtain ⟨sls, rv, h1, h2, h3⟩ := h
 have hn := h1.rlen h2
 obtain ⟨g, hg, _, _⟩ := (own_slice h1.own).2.2 (by omega)
 obtain ⟨a, n, c⟩ := so
 simp only at hg hn
 subst hg; subst hn
 exact ⟨g, c, rfl⟩
theorem RowsOk.hd {T1 T : TypeId} {base low g n c : Nat} {rows : List (List Itm)} {w : World} (h : RowsOk T1 T base low rows ⟨some ⟨g, 0, none⟩, n, c⟩ w) {k : Nat} {x : Itm} {t : List Itm} (hk : rows[k]? = some (x :: t)) :
  ∃ (sl : Sl) (l : List ItV) (g2 : Nat) (v : ItV), l.map ItV.it = x :: t ∧ SlR w sl 5 (itmCells l) ∧ w.cell? ⟨g, k, none⟩ = some (.slice sl.a sl.n sl.c) ∧ sl.a = some ⟨g2, 0, none⟩ ∧ 0 < sl.n ∧ v.it = x ∧ w.rangeAt g2 0 v.arr.toList ∧ v.ok w ∧ (∀ k ∈ v.foot, low ≤ k) := by
 obtain ⟨sls, rv, h1, h2, h3⟩ := h
 obtain ⟨sl, l, g', g2, v, ha, hm, hs, hg, hc, hn, hv, hr, ho, hf, _⟩ := h1.head h2 h3 hk
 simp only [Option.some.injEq, Addr.mk.injEq, and_true] at hg
 subst hg
 exact ⟨sl, l, g2, v, hm, hs, hc, ha, hn, hv, hr, ho, hf⟩
theorem RowsOk.an {T1 T : TypeId} {base low g n c : Nat} {rows : List (List Itm)} {w : World} (h : RowsOk T1 T base low rows ⟨some ⟨g, 0, none⟩, n, c⟩ w) {k : Nat} {t : List Itm} (hk : rows[k]? = some t) :
  ∃ (sl : Sl) (l : List ItV), l.map ItV.it = t ∧ SlR w sl 5 (itmCells l) ∧ w.cell? ⟨g, k, none⟩ = some (.slice sl.a sl.n sl.c) ∧ sl.n = t.length ∧ (∀ v ∈ l, v.ok w ∧ ∀ k ∈ v.foot, low ≤ k) := by
 obtain ⟨sls, rv, h1, h2, h3⟩ := h
 obtain ⟨sl, l, g', hm, hs, hg, hc, hn, ha⟩ := h1.any h2 h3 hk
 simp only [Option.some.injEq, Addr.mk.injEq, and_true] at hg
 subst hg
 exact ⟨sl, l, hm, hs, hc, hn, ha⟩
theorem RowsOkR.an {F : Nat → Prop} {T1 T : TypeId} {base g n c : Nat} {rows : List (List Itm)} {w : World} (h : RowsOkR F T1 T base rows ⟨some ⟨g, 0, none⟩, n, c⟩ w) {k : Nat} {t : List Itm} (hk : rows[k]? = some t) :
  ∃ (sl : Sl) (l : List ItV), l.map ItV.it = t ∧ SlR w sl 5 (itmCells l) ∧ w.cell? ⟨g, k, none⟩ = some (.slice sl.a sl.n sl.c) ∧ sl.n = t.length ∧ (∀ v ∈ l, v.ok w ∧ ∀ k ∈ v.foot, F k) := by
 obtain ⟨sls, rv, h1, h2, h3, h4⟩ := h
 obtain ⟨sl, l, g', hs, hl, hm, ho, hn, hg, hc, -⟩ := h1.at h2 hk
 simp only [Option.some.injEq, Addr.mk.injEq, and_true] at hg
 subst hg
 exact ⟨sl, l, hm, ho.sl (h3 sl (List.mem_of_getElem? hs)), hc, hn, fun v hv => ⟨ho.ok v hv, h4 l (List.mem_of_getElem? hl) v hv⟩⟩
theorem RowsOkR.hd {F : Nat → Prop} {T1 T : TypeId} {base g n c : Nat} {rows : List (List Itm)} {w : World} (h : RowsOkR F T1 T base rows ⟨some ⟨g, 0, none⟩, n, c⟩ w) {k : Nat} {x : Itm} {t : List Itm} (hk : rows[k]? = some (x :: t)) :
  ∃ (sl : Sl) (l : List ItV) (b off : Nat) (v : ItV), l.map ItV.it = x :: t ∧ SlR w sl 5 (itmCells l) ∧ w.cell? ⟨g, k, none⟩ = some (.slice sl.a sl.n sl.c) ∧ sl.a = some ⟨b, off, none⟩ ∧ 0 < sl.n ∧ v.it = x ∧ w.rangeAt b off v.arr.toList ∧ v.ok w ∧ (∀ k ∈ v.foot, F k) := by
 obtain ⟨sl, l, hm, hs, hc, hn, ha⟩ := h.an hk
 have hsn : 0 < sl.n := by rw [hn]; simp
 obtain ⟨b, off, v, hab, hv, hr⟩ := hs.row (k := 0) hsn
 have hvx : v.it = x := by
  have := congrArg (fun l => l[0]?) hm
  simpa [hv] using this
 obtain ⟨h1, h2⟩ := ha v (List.mem_of_getElem? hv)
 exact ⟨sl, l, b, off, v, hm, hs, hc, hab, hsn, hvx, by have h := hr; rw [Nat.zero_mul, Nat.add_zero] at h; exact h, h1, h2⟩
end Go.Proofs.YtbnbofooofedkaaDoor
