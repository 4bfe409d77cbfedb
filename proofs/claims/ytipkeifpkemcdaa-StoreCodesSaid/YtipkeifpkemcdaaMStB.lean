/- Several texts in one. -/
import Derived.Test.YtipkeifpkemcdaaMStA
import Derived.Test.YtipkeifpkemcdaaRegionP
import Derived.Maps.RangeWalk
import Derived.Maps.OwnSet
import Derived.Maps.Views
import Derived.StringKeys
import Derived.Shelf.SlMaps.Clone
import Derived.Test.YtipkeifpkemcdaaWalM
namespace Go.Proofs.Ytipkeifpkemcdaa
open Go.RowKit
set_option linter.unusedVariables false
set_option linter.unusedSimpArgs false
set_option maxRecDepth 100000
set_option maxHeartbeats 3200000
theorem grow_on {a b c : World} (h : Below a.heap.size a b) (k : Below b.heap.size b c) : Below a.heap.size a c := h.trans (k.mono h.size)
theorem run_append_empty {P : Program} (w : World) (base : Nat) (t ty e : TypeId) (i : TypeInfo) (z : Value) (size bytes : Nat) (ht : P.underlying t = some (.slice e)) (hi : P.info? e = some i) (hz : i.zero = some z)
    (hsize : i.size = size) (hby : i.bytes = bytes) (hzs : z.cells.size = size) (hsz : 0 < size) (g : Nat) (hg : w.heap[g]? = some (.cells #[] e (0, 0))) (hgb : base ≤ g)
    (a : Option Addr) (m c : Nat) (news : List Value) (hx : RdC w a (m * size) news) (h1 : ∀ u ∈ news, u.oneCell' = true) (hc : a = none → c = 0) (h63 : m ≤ maxLen) (hbytes : m * bytes ≤ 140737488355328) :
    ∃ a' c' w', (Builtin.append_ #[t, t] ty #[.slice (some ⟨g, 0, none⟩) 0 0, .slice a m c]).run P w = .ok (.slice a' m c') w' ∧ w'.ownsRow base e size (.slice a' m c') m news ∧ Below w.heap.size w w' := by
  have hgl := block_lt hg
  have hown : w.ownsRow base e size (.slice (some ⟨g, 0, none⟩) 0 0) 0 [] := ⟨by simp, .inr ⟨g, 0, #[], rfl, hgb, hg, Nat.le_refl _, by unfold maxLen; omega, by simp, by simp⟩⟩
  have hnil : m = 0 → news = [] := fun h => List.eq_nil_of_length_eq_zero (by rw [hx.len, h]; simp)
  cases a with
  | none =>
    obtain rfl := hc rfl
    have hm : m = 0 := by
      rcases Nat.eq_zero_or_pos m with h | h
      · exact h
      · obtain ⟨b, off, ha, _⟩ := hx.cell 0 (Nat.mul_pos h hsz); cases ha
    subst hm
    obtain rfl := hnil rfl
    exact ⟨_, _, w, run_append_owned_none (P := P) (w := w) base t ty e i size ht hi _ 0 [] hown, hown, Below.refl _ _⟩
  | some a =>
    rcases Nat.eq_zero_or_pos m with h | h
    · subst h
      obtain rfl := hnil rfl
      have hr := run_append_room (P := P) w t ty e i ht hi g 0 0 #[] hg a 0 c [] (by simp) (by simp) (by simp) (Nat.le_refl _) (by simp)
      have hch : Chg [] w (w.setRow g (((#[] : Array Value).toList.take (0 * i.size) ++ [] ++ (#[] : Array Value).toList.drop (0 * i.size + ([] : List Value).length)).toArray)) := by
        refine ⟨rfl, rfl, rfl, by simp [World.setRow], fun k hk _ => ?_⟩
        by_cases hkg : k = g
        · subst hkg
          simp [World.setRow, Array.getElem?_modify, hg]
        · simp [World.setRow, Array.getElem?_modify, Ne.symm hkg]
      exact ⟨_, _, _, hr, hch.owns hown (by simp), hch.below (by simp) (Nat.le_refl _)⟩
    · obtain ⟨v', w', hr, h2, h3⟩ := run_append_arg_grows (P := P) w t ty e i z size bytes ht hi hz hsize hby hzs hsz ⟨g, 0, none⟩ 0 0 [] (by simp) (by simp) a m c news hx.len hx.news (by omega) (by omega) (by rw [Nat.zero_add]; exact hbytes)
      rw [Nat.zero_add, List.nil_append] at h2
      obtain ⟨a', c', rfl⟩ : ∃ a' c', v' = .slice a' m c' := by
        rcases h2.2 with ⟨hv, h0⟩ | ⟨g', cap, cur, hv, _⟩
        · exact ⟨none, 0, by rw [hv, h0]⟩
        · exact ⟨_, _, hv⟩
      exact ⟨a', c', w', hr, ownsRow_base h2 (fun k hk => by have := (h2.lt k hk).1; omega), (Below.refl _ _).grown h3 (Nat.le_refl _) (fun k hk => by cases hk)⟩
theorem wp_append_empty {P : Program} {w : World} {o : Oper} {a : Act} {K : Act → World → Prop} {Q : Exit → Act → World → Prop} (s x : Operand) (t : TypeId)
    (ho : o.op = .call { callee := .builtin .append, args := #[s, x], argTypes := #[t, t] })
    (base : Nat) (e : TypeId) (i : TypeInfo) (z : Value) (size bytes : Nat) (ht : P.underlying t = some (.slice e)) (hi : P.info? e = some i) (hz : i.zero = some z)
    (hsize : i.size = size) (hby : i.bytes = bytes) (hzs : z.cells.size = size) (hsz : 0 < size) (g : Nat) (hs : a.eval s = .slice (some ⟨g, 0, none⟩) 0 0) (hg : w.heap[g]? = some (.cells #[] e (0, 0))) (hgb : base ≤ g)
    (ad : Option Addr) (m c : Nat) (news : List Value) (hx : a.eval x = .slice ad m c) (hr : RdC w ad (m * size) news) (h1 : ∀ u ∈ news, u.oneCell' = true) (hc : ad = none → c = 0) (h63 : m ≤ maxLen) (hbytes : m * bytes ≤ 140737488355328)
    (h : ∀ a' c' w', w'.ownsRow base e size (.slice a' m c') m news → Below w.heap.size w w' → K (a.put o.dst (.slice a' m c')) w') : o.wp P a w K Q := by
  obtain ⟨a', c', w', hrun, h2, h3⟩ := run_append_empty (P := P) w base t o.type e i z size bytes ht hi hz hsize hby hzs hsz g hg hgb ad m c news hr h1 hc h63 hbytes
  unfold Oper.wp execOp
  simp only [ho, resolve, invoke, builtin, Sem.run_bind, Sem.run_pure, Result.andThen_ok, List.map_toArray, List.map_cons, List.map_nil, hs, hx, hrun]
  exact h a' c' w' h2 h3
end Go.Proofs.Ytipkeifpkemcdaa
namespace Go.Proofs.Ytipkeifpkemcdaa
open Go.RowKit Go.Maps Go.ChangeMaps Go.MapKept
set_option linter.unusedVariables false
set_option linter.unusedSimpArgs false
set_option maxRecDepth 1000000
set_option maxHeartbeats 6400000
/-- An element of a map, as it stands. -/
def tokR (v : Value) : Option (DataW Value × List MemPlace) := some (.held v, [])
abbrev Pm := List UInt8 → Option (List UInt8)
def Pm.one (m : Pm) (c : Cg) : Pm := fun k => if k = c.key then (if c.has = true then some c.val else none) else m k
def Pm.does (m : Pm) (l : List Cg) : Pm := l.foldl Pm.one m
theorem Pm.does_snoc (m : Pm) (l : List Cg) (c : Cg) : m.does (l ++ [c]) = (m.does l).one c := by unfold Pm.does; rw [List.foldl_append]; rfl
/-- The pairs that a datum tells; their values stand in blocks of P. -/
structure PmD (w : World) (P : Nat → Prop) (D : DataW Value) (m : Pm) : Prop where
  off : ∀ k, m k = none → has D (.string k) = false
  on : ∀ k l, m k = some l → has D (.string k) = true ∧ ∃ s : Sl, (∀ zd, D.atKey (.string k) zd = .held (.slice s.a s.n s.c)) ∧ RdB w s.a s.n l ∧ (s.a = none → s.c = 0) ∧ s.n ≤ 140737488355328 ∧ ∀ b off sp, s.a = some ⟨b, off, sp⟩ → P b
/-- Block b is a map of pairs. -/
def MpR (w : World) (b : Nat) (P : Nat → Prop) (n : Nat) (m : Pm) : Prop := ∃ D, w.ownsMap Try.prog 9 tokR b n D ∧ PmD w P D m
section
variable {w w' : World} {P P' : Nat → Prop} {D : DataW Value} {m : Pm} {G : List Nat} {b n : Nat}
theorem PmD.keep (h : PmD w P D m) (hc : Chg G w w') (hG : ∀ q ∈ G, ¬ P q) : PmD w' P D m :=
  ⟨h.off, fun k l hk => let ⟨h1, s, h2, h3, h4, h5, h6⟩ := h.on k l hk; ⟨h1, s, h2, hc.rdB h3 (fun b off sp e hm => hG b hm (h6 b off sp e)), h4, h5, h6⟩⟩
theorem PmD.wide (h : PmD w P D m) (hP : ∀ q, P q → P' q) : PmD w P' D m :=
  ⟨h.off, fun k l hk => let ⟨h1, s, h2, h3, h4, h5, h6⟩ := h.on k l hk; ⟨h1, s, h2, h3, h4, h5, fun b off sp e => hP b (h6 b off sp e)⟩⟩
theorem lit_ne {k k' : List UInt8} (h : k ≠ k') : Lit.string k ≠ Lit.string k' := fun e => h (by cases e; rfl)
theorem PmD.put (h : PmD w P D m) (hD : IsMap D) {k l : List UInt8} (hk : WideAt.IsKeyLit (.string k)) {s : Sl} (h3 : RdB w s.a s.n l) (h4 : s.a = none → s.c = 0) (h5 : s.n ≤ 140737488355328) (h6 : ∀ b off sp, s.a = some ⟨b, off, sp⟩ → P b) :
    PmD w P (D.put (.string k) (.held (.slice s.a s.n s.c))) (fun k' => if k' = k then some l else m k') := by
  refine ⟨fun k' hk' => ?_, fun k' l' hk' => ?_⟩
  · by_cases e : k' = k
    · rw [if_pos e] at hk'; cases hk'
    · rw [if_neg e] at hk'
      rw [has_put_other (lit_ne e)]
      exact h.off k' hk'
  · by_cases e : k' = k
    · rw [if_pos e] at hk'
      cases hk'
      subst e
      exact ⟨has_put_same hD hk _, s, fun zd => atKey_put_same hD hk _ zd, h3, h4, h5, h6⟩
    · rw [if_neg e] at hk'
      obtain ⟨g1, s', g2, g3, g4, g5, g6⟩ := h.on k' l' hk'
      exact ⟨by rw [has_put_other (lit_ne e)]; exact g1, s', fun zd => by rw [atKey_put_other (lit_ne e)]; exact g2 zd, g3, g4, g5, g6⟩
theorem PmD.del (h : PmD w P D m) (k : List UInt8) : PmD w P (D.del (.string k)) (fun k' => if k' = k then none else m k') := by
  refine ⟨fun k' hk' => ?_, fun k' l' hk' => ?_⟩
  · by_cases e : k' = k
    · rw [e]; exact has_del_same
    · rw [if_neg e] at hk'
      rw [has_del_other (lit_ne e)]
      exact h.off k' hk'
  · by_cases e : k' = k
    · rw [if_pos e] at hk'; cases hk'
    · rw [if_neg e] at hk'
      obtain ⟨g1, s', g2, g3, g4, g5, g6⟩ := h.on k' l' hk'
      exact ⟨by rw [has_del_other (lit_ne e)]; exact g1, s', fun zd => by rw [atKey_del_other (lit_ne e)]; exact g2 zd, g3, g4, g5, g6⟩
theorem ownsMap_keep {H : Type} {Pr : Program} {kt : TypeId} {R : Value → Option (DataW H × List MemPlace)} {D : DataW H} (h : w.ownsMap Pr kt R b n D) (hc : Chg G w w') (hb : b ∉ G) : w'.ownsMap Pr kt R b n D := by
  have hlt := h.lt
  obtain ⟨es, clock, h1, F, hs, hD⟩ := h
  exact ⟨es, clock, (hc.block b hlt hb).trans h1, F, hs, hD⟩
theorem MpR.keep (h : MpR w b P n m) (hc : Chg G w w') (hb : b ∉ G) (hG : ∀ q ∈ G, ¬ P q) : MpR w' b P n m := let ⟨D, h1, h2⟩ := h; ⟨D, ownsMap_keep h1 hc hb, h2.keep hc hG⟩
theorem MpR.below (h : MpR w b P n m) (hb : Below w.heap.size w w') : MpR w' b P n m := h.keep (Chg.of_below hb []) (by simp) (fun q hm => by cases hm)
theorem MpR.wide (h : MpR w b P n m) (hP : ∀ q, P q → P' q) : MpR w b P' n m := let ⟨D, h1, h2⟩ := h; ⟨D, h1, h2.wide hP⟩
theorem MpR.lt (h : MpR w b P n m) : b < w.heap.size := let ⟨D, h1, h2⟩ := h; h1.lt
theorem MpR.more (h : MpR w b P n m) {n' : Nat} (hn : n ≤ n') : MpR w b P n' m := let ⟨D, h1, h2⟩ := h; ⟨D, h1.mono hn, h2⟩
theorem MpR.made (w : World) (P : Nat → Prop) : MpR (w.alloc (.map #[] 0)) w.heap.size P 0 (fun _ => none) :=
  ⟨.map [], World.ownsMap_made w _ _ _, ⟨fun k _ => rfl, fun k l h => by cases h⟩⟩
theorem Chg.of_grown {w w' : World} {b : Nat} (hg : w.grownBy w' (some b)) : Chg [b] w w' := (Chg.refl [b] w).grown hg (fun k hk => .inl (by cases hk; simp))
theorem Chg.of_turned (h : w.mapTurned w' b) : Chg [b] w w' ∧ w'.heap.size = w.heap.size := by
  obtain ⟨es, clock, es', clock', h1, rfl⟩ := h
  have hg : w.grownBy (setBlock w b (.map es' clock')) (some b) := ⟨rfl, rfl, rfl, by simp [setBlock], fun i _ hi => heap_setBlock_other h1 _ (fun e => hi (by rw [e]))⟩
  exact ⟨Chg.of_grown hg, by simp [setBlock]⟩
end
theorem strKeyed : Keyed Try.prog 9 := string_keyed Try.underlying9
theorem key_of {s : ByteArray} (hs : s.size ≤ 9223372036854775807) : keyOf Try.prog 9 (.string s) = some (.string s.data.toList) := Go.WideMaps.keyOf_string_mk Try.underlying9 (by unfold maxLen; omega)
theorem byteInfo : (Try.prog.info? 5).map (fun i => (i.zero, i.size, i.bytes)) = some (some (.int .u8 0), 1, 1) := by kernel_rfl
def stEmpty5 (B : Nat) : St Grow := ⟨fun v w => ∃ g, v = .slice (some ⟨g, 0, none⟩) 0 0 ∧ w.heap[g]? = some (.cells #[] 5 (0, 0)) ∧ B ≤ g, fun v w w' h hg => let ⟨g, e, h0, h1⟩ := h; ⟨g, e, (hg.block _ (block_lt h0)).trans h0, h1⟩⟩
theorem B8s_one5 (l : List UInt8) : ∀ u ∈ l.map B8, u.oneCell' = true := fun u hu => by obtain ⟨x, -, rfl⟩ := List.mem_map.1 hu; rfl
end Go.Proofs.Ytipkeifpkemcdaa
namespace Go.Proofs.Ytipkeifpkemcdaa
open Go.RowKit Go.Maps Go.ChangeMaps Go.MapKept
set_option linter.unusedVariables false
set_option linter.unusedSimpArgs false
set_option maxRecDepth 1000000
set_option maxHeartbeats 6400000
/-- While the changes of a unit are done. -/
structure DoL (w0 : World) (b n0 n : Nat) (P : Nat → Prop) (m : Pm) (l : List ChD) (y8 : Value) (wr : World) : Prop where
  ex : ∃ k : Nat, y8 = .int .i64 (k : Int) ∧ k ≤ n ∧ MpR wr b (fun q => P q ∨ (w0.heap.size ≤ q ∧ q < wr.heap.size)) (n0 + k) (m.does ((l.take k).map ChD.cg)) ∧ Chg [b] w0 wr
def stBl5 (lo n : Nat) (l : List UInt8) : St Grow := ⟨fun v w => ∃ a c, v = .slice a n c ∧ RdB w a n l ∧ (a = none → c = 0) ∧ ∀ b off sp, a = some ⟨b, off, sp⟩ → lo ≤ b ∧ b < w.heap.size, fun v w w' h hg => let ⟨a, c, e, h1, h2, h3⟩ := h; ⟨a, c, e, h1.below hg, h2, fun b off sp e => ⟨(h3 b off sp e).1, Nat.lt_of_lt_of_le (h3 b off sp e).2 hg.size⟩⟩⟩
theorem one_on (m : Pm) (x : ChD) (h : x.has = true) : m.one x.cg = fun k' => if k' = x.key.data.toList then some x.val else m k' := by
  unfold Pm.one ChD.cg
  dsimp only
  rw [if_pos h]
theorem one_off (m : Pm) (x : ChD) (h : x.has = false) : m.one x.cg = fun k' => if k' = x.key.data.toList then none else m k' := by
  unfold Pm.one ChD.cg
  dsimp only
  rw [if_neg (by rw [h]; decide)]
theorem does_next (m : Pm) (l : List ChD) (k : Nat) (x : ChD) (h : l[k]? = some x) : m.does ((l.take (k + 1)).map ChD.cg) = (m.does ((l.take k).map ChD.cg)).one x.cg := by
  rw [List.take_add_one, h, List.map_append, ← Pm.does_snoc]
  rfl
theorem does_any (b n0 : Nat) (P : Nat → Prop) (m : Pm) (s : Sl) (l : List ChD) (PQ : Nat → Prop) (w : World) (hm : MpR w b P n0 m) (hl : ChQ w PQ s l) (hb : ¬ PQ b) (hPb : ∀ q, P q → q ≠ b) (hn : n0 + s.n ≤ 70368744177664) :
    Calls Try.prog 52 #[.map (some b), .slice s.a s.n s.c] w fun e w' => e = .returned (.tuple #[]) ∧ MpR w' b (fun q => P q ∨ (w.heap.size ≤ q ∧ q < w'.heap.size)) (n0 + s.n) (m.does (l.map ChD.cg)) ∧ Chg [b] w w' := by
  obtain ⟨i, hi, hz0, hz1, hz2⟩ := info_parts byteInfo
  have HL := hid hl; have HB := hid hb; have HPB := hid hPb; have HM := hid hm
  have HBL := hid hm.lt
  have hsm := hl.ch.sm
  clear hl hb hPb hm
  go_enter Try.func52, Try.ntmps52
  go_wp2_with fail
  go_loopw [8] (fun y8 wr => DoL w b n0 s.n P m l y8 wr) (fun y8 _ => s.n - (intOf y8).toNat)
  case atStart => exact ⟨⟨0, rfl, Nat.zero_le _, HM.out.wide (fun q hq => .inl hq), Chg.refl _ _⟩⟩
  case round =>
    obtain ⟨k, rfl, hk, hmk, hc⟩ := hrel.ex
    clear hrel
    have HMK := hid hmk; have HC := hid hc
    clear hmk hc
    by_cases k1 : k < s.n
    · have k1z : (k : Int) < (s.n : Int) := by omega
      have hlw := HL.out.keep HC.out (fun q hq hp => HB.out (by rw [← List.mem_singleton.1 hq]; exact hp))
      obtain ⟨bL, oL, x, haL, hlx, hrow, hxo⟩ := hlw.ch.row k k1
      have HXO := hid hxo; have HLX := hid hlx; have HR := hid hrow
      have HNX := hid (does_next m l k x hlx)
      clear hlx hrow hxo hlw
      obtain ⟨sa, sn, sc⟩ := s
      dsimp only at haL
      subst haL
      dsimp only at k1 k1z hk hn hsm ⊢
      go_upto_region 3 with (first | (refine wpList_load_mid rfl 59 _ rfl bL (oL + k * 3) rfl x.cells _ HR.out Try.underlying59 rfl chSize ?_) | (refine wpList_alloc_obj rfl 59 rfl _ chZero ?_) | (refine wpList_store_obj rfl 59 _ _ rfl wr.heap.size rfl x.cells.toArray rfl _ _ (block_new wr _) rfl chSize (chOne x) ?_; intro w5 hb5 hc5 hs5; have HX := hid hb5; have HC5 := hid hc5; clear hb5 hc5 hs5))
      have hbel : Below wr.heap.size wr w5 := ((Below.refl _ wr).alloc (Nat.le_refl _) _).trans (HC5.out.below (fun k hk => by rw [List.mem_singleton.1 hk]; exact Nat.le_refl _) (by simp))
      have HM5 := hid (HMK.out.below hbel)
      have HC6 := hid (HC.out.trans (Chg.of_below hbel []) (fun q hq => by cases hq))
      have HXO5 := hid (HXO.out.below hbel)
      have HBS := hid (show b < wr.heap.size from HMK.out.lt)
      have HSZ := hid hbel.size
      clear hbel HC5 HR HMK HC HXO
      have HW := hid HC6.out.size
      generalize wr.heap.size = bs at *
      obtain ⟨hv, hhv⟩ : ∃ y, x.has = y := ⟨_, rfl⟩
      have HHV := hid hhv
      have c1 : w5.cell? ⟨bs, 1, none⟩ = some (.bool x.has) := cell_of_block (j := 1) HX.out rfl
      rw [hhv] at c1
      clear hhv
      cases hv with
      | true =>
        go_upto_region 4 with (fail)
        clear c1
        refine wp_region_each 7 [.eq (.map (some b)), .eq (.pointer (some ⟨bs, 0, none⟩)), .eq (.string x.key), stEmpty5 w5.heap.size, .eq (.pointer (some ⟨bs, 2, none⟩)), .eq (.slice x.va x.vn x.vc), stBl5 w5.heap.size x.vn x.val] (by kernel_rfl) (by kernel_rfl) (by kernel_rfl) (by kernel_rfl) ?_ ?_
        · all_goals
            refine each_5 ?_ ?_ ?_ ?_ ?_ (each_c ?_ (each_c ?_ (each_n)))
            · intro w1 hg Ar seen
              have s0 := seen.sl 0 (.map (some b))
              refine does_plain rfl fun K Q' hK => ?_
              go_simp; exact hK _ _ (Grow.refl _) rfl
            · intro w1 hg Ar seen
              have s5 := seen.sl 5 (.pointer (some ⟨bs, 0, none⟩))
              refine does_plain rfl fun K Q' hK => ?_
              go_simp; exact hK _ _ (Grow.refl _) rfl
            · intro w1 hg Ar seen
              have e1 := seen.de 1 15
              refine does_plain rfl fun K Q' hK => ?_
              have hc : w1.cell? ⟨bs, 0, none⟩ = some (.string x.key) := cell_of_block (j := 0) ((hg.block _ (block_lt HX.out)).trans HX.out) rfl
              go_simp; exact hK _ _ (Grow.refl _) rfl
            · intro w1 hg Ar seen
              refine does_plain rfl fun K Q' hK => ?_
              go_simp
              exact hK _ _ ((Below.refl _ _).alloc (Nat.le_refl _) _) ⟨_, rfl, block_new _ _, hg.size⟩
            · intro w1 hg Ar seen
              have s5 := seen.sl 5 (.pointer (some ⟨bs, 0, none⟩))
              refine does_plain rfl fun K Q' hK => ?_
              go_simp; exact hK _ _ (Grow.refl _) rfl
            · intro w1 hg Ar seen
              have e4 := seen.de 4 18
              refine does_plain rfl fun K Q' hK => ?_
              have hc : w1.cell? ⟨bs, 2, none⟩ = some (.slice x.va x.vn x.vc) := cell_of_block (j := 2) ((hg.block _ (block_lt HX.out)).trans HX.out) rfl
              go_simp; exact hK _ _ (Grow.refl _) rfl
            · intro w1 hg Ar seen
              obtain ⟨v3, e3, h3⟩ := seen.dp 3 17
              have e5 := seen.de 5 19
              refine does_plain rfl fun K Q' hK => ?_
              obtain ⟨g, rfl, hgc, hgb⟩ := h3
              refine wp_append_empty _ _ 24 rfl w5.heap.size 5 i _ 1 1 Try.underlying24 hi hz0 hz1 hz2 rfl (by decide) g (by simp [Act.eval, e3]) hgc hgb x.va x.vn x.vc (x.val.map B8) (by simp [Act.eval, e5]) (by rw [Nat.mul_one]; exact (HXO5.out.below hg).rd.toC) (B8s_one5 _) HXO5.out.no (by have := HXO5.out.sm; unfold maxLen; omega) (by have := HXO5.out.sm; omega) ?_
              intro a' c' w' hown hb
              exact hK _ _ hb ⟨a', c', rfl, RdB.of_own hown, (own_slice hown).2.1, own_at hown⟩
        intro w1 hg
        refine upon_w' (js := [0, 1, 2, 3, 4, 5, 6]) (by rfl) ?_
        refine upon_e (some 14) (upon_e (some 15) (upon_e (some 16) (upon_v (some 17) fun v3 h3 => upon_e (some 18) (upon_e (some 19) (upon_v (some 20) fun v6 h6 => upon_n ?_)))))
        obtain ⟨a', c', rfl, hrd, hvn, hvb⟩ := h6
        obtain ⟨D, hown, hpd⟩ := HM5.out.below hg
        have HOWN := hid hown; have HPD := hid hpd; have HRD := hid hrd; have HVN := hid hvn; have HVB := hid hvb
        have HC7 := hid (HC6.out.trans (Chg.of_below hg []) (fun q hq => by cases hq))
        have HG7 := hid hg.size
        clear hown hpd hrd hvn hvb hg h3 HM5 HC6
        go_frame
        refine wpList_mapUpdate_own _ rfl _ _ _ 92 rfl 9 24 strKeyed Try.underlying92 tokR b (n0 + k) D rfl HOWN.out (by unfold maxLen; omega) (.string x.key) (.slice a' x.vn c') (.string x.key.data.toList) rfl rfl (key_of HXO5.out.ks) _ [] rfl ?_
        intro w2 hown2 hgrow
        have hc2 := Chg.of_grown hgrow
        have hPb : ¬ (P b ∨ (w.heap.size ≤ b ∧ b < bs)) := fun h => by
          rcases h with h | h
          · exact HPB.out b h rfl
          · have := HBL.out; omega
        have hpd2 := (HPD.out.keep hc2 (fun q hq hp => hPb (by rw [← List.mem_singleton.1 hq]; exact hp))).wide (P' := fun q => P q ∨ (w.heap.size ≤ q ∧ q < w2.heap.size)) (fun q hq => hq.imp id (fun h => ⟨h.1, by have h1 := h.2; have h2 := HSZ.out; have h3 := HG7.out; have h4 := hc2.size; omega⟩))
        have hpd3 := hpd2.put HOWN.out.isMap (k := x.key.data.toList) (l := x.val) trivial (s := ⟨a', x.vn, c'⟩) (hc2.rdB HRD.out (fun q off sp e hm => by have h1 := (HVB.out q off sp e).1; have h2 := List.mem_singleton.1 hm; have h3 := HBS.out; have h4 := block_lt HX.out; omega)) HVN.out HXO5.out.sm (fun q off sp e => .inr (by
          have h1 := HVB.out q off sp e; have h2 := hc2.size; have h3 := HC7.out.size; have h4 := block_lt HX.out; have h5 := HBS.out; have h6 := HSZ.out; have h7 := HW.out
          exact ⟨by omega, by omega⟩))
        have HRR : DoL w b n0 sn P m l (.int .i64 ((k : Int) + 1)) w2 := ⟨⟨k + 1, rfl, k1, ⟨_, hown2, by rw [HNX.out, one_on _ x HHV.out]; exact hpd3⟩, HC7.out.trans hc2 (fun q hq => .inl hq)⟩⟩
        clear hown2 hgrow hc2 hPb hpd2 hpd3
        go_wp2_with fail
        go_roundw
        case rel => first | exact HRR | ((repeat apply Exists.intro); exact HRR) | ((repeat apply Exists.intro); exact ⟨HRR, rfl⟩)
        case measure => (simp [intOf] <;> omega)
      | false =>
        go_upto_region 5 with (fail)
        clear c1
        have c0 : w5.cell? ⟨bs, 0, none⟩ = some (.string x.key) := cell_of_block (j := 0) HX.out rfl
        obtain ⟨D, hown, hpd⟩ := HM5.out
        have HOWN := hid hown; have HPD := hid hpd
        clear hown hpd HM5
        have tdel := True.intro
        go_wp2_with (at_delete; refine haltI ?_)
        refine haltO ?_
        refine wpList_delete_own _ rfl _ _ 92 9 rfl 24 strKeyed Try.underlying92 tokR b (n0 + k) D rfl HOWN.out (.string x.key) (.string x.key.data.toList) rfl (key_of HXO5.out.ks) ?_
        intro w2 hown2 hturn
        obtain ⟨hc2, hs2⟩ := Chg.of_turned hturn
        have hPb : ¬ (P b ∨ (w.heap.size ≤ b ∧ b < bs)) := fun h => by
          rcases h with h | h
          · exact HPB.out b h rfl
          · have := HBL.out; omega
        have hpd2 := (HPD.out.keep hc2 (fun q hq hp => hPb (by rw [← List.mem_singleton.1 hq]; exact hp))).wide (P' := fun q => P q ∨ (w.heap.size ≤ q ∧ q < w2.heap.size)) (fun q hq => hq.imp id (fun h => ⟨h.1, by have h1 := HSZ.out; have h2 := h.2; omega⟩))
        have hpd3 := hpd2.del x.key.data.toList
        have HRR : DoL w b n0 sn P m l (.int .i64 ((k : Int) + 1)) w2 := ⟨⟨k + 1, rfl, k1, ⟨_, hown2.mono (by omega), by rw [HNX.out, one_off _ x HHV.out]; exact hpd3⟩, HC6.out.trans hc2 (fun q hq => .inl hq)⟩⟩
        clear hown2 hturn hc2 hs2 hPb hpd2 hpd3 c0
        go_wp2_with fail
        go_roundw
        case rel => first | exact HRR | ((repeat apply Exists.intro); exact HRR) | ((repeat apply Exists.intro); exact ⟨HRR, rfl⟩)
        case measure => (simp [intOf] <;> omega)
    · have k1z : ¬ (k : Int) < (s.n : Int) := by omega
      obtain rfl : k = s.n := by omega
      have htk : l.take s.n = l := List.take_of_length_le (by rw [HL.out.ch.len]; exact Nat.le_refl _)
      go_wp2_with fail
      go_end0
      refine ⟨rfl, ?_, HC.out⟩
      have h := HMK.out
      rw [htk] at h
      exact h
end Go.Proofs.Ytipkeifpkemcdaa
namespace Go.Proofs.Ytipkeifpkemcdaa
open Go.RowKit Go.Maps Go.ChangeMaps Go.MapKept
set_option linter.unusedVariables false
set_option linter.unusedSimpArgs false
set_option maxRecDepth 1000000
set_option maxHeartbeats 6400000
theorem cloneE_any (b : Nat) (es : Array MapEntry) (clock : Nat) (w : World) (hb : w.heap[b]? = some (.map es clock)) :
    Calls Try.prog 55 #[.map (some b)] w fun e w' => e = .returned (.map (some w.heap.size)) ∧ w' = w.alloc (.map es clock) := by
  have hq := fun w => run_eql_map_nil_sl (P := Try.prog) w 92 _ _ (some b) Try.underlying92
  go_enter Try.func55, Try.ntmps55
  go_wp2
  rw [run_callFunc_extern Try.func76 (by kernel_rfl) (by kernel_rfl) (by kernel_rfl) (e := Extern.MapsClone.clone) (by kernel_rfl), run_maps_clone_sl w 92 hb]
  simp only [Result.andThen]
  rw [Oper.upon_value]
  go_wp2
  rw [run_typeAssert_map_sl _ 92 20 _ _ _ Try.underlying92]
  simp only [Result.andThen]
  rw [Oper.upon_value]
  go_wp2
  go_ret
  exact ⟨rfl, rfl⟩
theorem cloneM_any (b n : Nat) (P : Nat → Prop) (m : Pm) (w : World) (h : MpR w b P n m) :
    Calls Try.prog 55 #[.map (some b)] w fun e w' => e = .returned (.map (some w.heap.size)) ∧ MpR w' w.heap.size P n m ∧ Below w.heap.size w w' := by
  obtain ⟨D, ⟨es, clock, h1, F, hs, hD⟩, h2⟩ := h
  refine (cloneE_any b es clock w h1).mono ?_
  rintro e w' ⟨rfl, rfl⟩
  have hb : Below w.heap.size w (w.alloc (.map es clock)) := (Below.refl _ w).alloc (Nat.le_refl _) _
  exact ⟨rfl, ⟨D, ⟨es, clock, block_new _ _, F, hs, hD⟩, h2.keep (Chg.of_below hb []) (fun q hm => by cases hm)⟩, hb⟩
theorem behind_any (ps b n : Nat) (P : Nat → Prop) (m : Pm) (v0 v2 : Value) (T : TypeId) (s : Sl) (l : List ChD) (PQ : Nat → Prop) (w : World) (hx : w.heap[ps]? = some (.cells #[v0, .map (some b), v2] T (0, 0))) (hm : MpR w b P n m) (hP : ∀ q, P q → q < w.heap.size)
    (hl : ChQ w PQ s l) (hQ : ∀ q, PQ q → q < w.heap.size) (hn : n + s.n ≤ 70368744177664) :
    Calls Try.prog 73 #[.pointer (some ⟨ps, 0, none⟩), .slice s.a s.n s.c] w fun e w' => ∃ b', e = .returned (.map (some b')) ∧ w.heap.size ≤ b' ∧ MpR w' b' (fun q => P q ∨ (b' < q ∧ q < w'.heap.size)) (n + s.n) (m.does (l.map ChD.cg)) ∧ Below w.heap.size w w' := by
  have HM := hid hm; have HL := hid hl; have HP := hid hP; have HQ := hid hQ
  have c1 : w.cell? ⟨ps, 1, none⟩ = some (.map (some b)) := cell_of_block (j := 1) hx rfl
  clear hm hl hP hQ hx
  go_enter Try.func73, Try.ntmps73
  go_wp2_with fail
  clear c1
  refine (cloneM_any b n P m _ HM.out).mono ?_
  rintro e w1 ⟨rfl, hm1, hb1⟩
  dsimp only
  have HM1 := hid hm1; have HB1 := hid hb1; have HL1 := hid (HL.out.below hb1)
  clear hm1 hb1
  go_wp2_with fail
  refine (does_any w.heap.size n P m s l PQ _ HM1.out HL1.out (fun h => by have := HQ.out _ h; omega) (fun q hq e => by have := HP.out q hq; omega) hn).mono ?_
  rintro e w2 ⟨rfl, hm2, hc2⟩
  dsimp only
  have HM2 := hid hm2
  have HB2 := hid (HB1.out.trans (hc2.below (fun q hq => by rw [List.mem_singleton.1 hq]; exact Nat.le_refl _) HB1.out.size))
  clear hm2 hc2
  go_wp2_with fail
  go_ret
  exact ⟨_, rfl, Nat.le_refl _, HM2.out.wide (fun q hq => hq.imp id (fun h => ⟨Nat.lt_of_lt_of_le HM1.out.lt h.1, h.2⟩)), HB2.out⟩
theorem logDead_any (pl p e0 : Nat) (a0 u0 at0 : Int) (dead : Bool) (w : World) (hl : w.heap[pl]? = some (.cells (logArr p e0 a0 u0 at0 dead) 118 (0, 0))) :
    Calls Try.prog 60 #[.pointer (some ⟨pl, 0, none⟩)] w fun e w' => e = .returned (.bool dead) ∧ w = w' := by
  have c : w.cell? ⟨pl, 5, none⟩ = some (.bool dead) := cell_of_block (j := 5) hl rfl
  clear hl
  go_enter Try.func60, Try.ntmps60
  go_wp2_with fail
  go_ret
  exact ⟨rfl, rfl⟩
end Go.Proofs.Ytipkeifpkemcdaa
namespace Go.Proofs.Ytipkeifpkemcdaa
open Go.RowKit Go.Maps Go.ChangeMaps Go.MapKept
set_option linter.unusedVariables false
set_option linter.unusedSimpArgs false
set_option maxRecDepth 1000000
set_option maxHeartbeats 6400000
/-- The pairs behind units. -/
def unitsM (us : List (List UInt8)) : Option Pm := us.foldl (fun o u => o.bind fun m => (readCs u).map fun l => m.does l) (some fun _ => none)
theorem unitsM_snoc (us : List (List UInt8)) (u : List UInt8) : unitsM (us ++ [u]) = (unitsM us).bind fun m => (readCs u).map fun l => m.does l := by unfold unitsM; rw [List.foldl_append]; rfl
theorem unitsM_take (us : List (List UInt8)) (h : unitsM us ≠ none) : ∀ k, unitsM (us.take k) ≠ none := by
  intro k hk
  apply h
  have key : ∀ (l : List (List UInt8)), l.foldl (fun (o : Option Pm) u => o.bind fun m => (readCs u).map fun l => m.does l) none = none := fun l => by
    induction l with
    | nil => rfl
    | cons x l ih => exact ih
  have e : us = us.take k ++ us.drop k := (List.take_append_drop k us).symm
  unfold unitsM at hk ⊢
  rw [e, List.foldl_append, hk]
  exact key _
/-- A store in memory: its log holds the units us, its pairs are m. -/
structure StS (w : World) (p ps pl b N E A U : Nat) (AT : Int) (us : List (List UInt8)) (s : DSt) (F : List Nat) (n : Nat) (m : Pm) : Prop where
  bx : w.heap[ps]? = some (.cells #[.pointer (some ⟨pl, 0, none⟩), .map (some b), .int .i64 (us.length : Int)] 94 (0, 0))
  lg : LgS w p pl N E A U AT us s F
  mp : MpR w b (fun q => q < w.heap.size ∧ q ≠ b ∧ q ∉ ps :: pl :: F) n m
  off : ps ∉ pl :: F
  bo : b ∉ ps :: pl :: F
  un : unitsM us = some m
section
variable {w w' : World} {p ps pl b N E A U : Nat} {AT : Int} {us : List (List UInt8)} {s : DSt} {F : List Nat} {n : Nat} {m : Pm}
theorem StS.below (h : StS w p ps pl b N E A U AT us s F n m) (hb : Below w.heap.size w w') : StS w' p ps pl b N E A U AT us s F n m :=
  ⟨(hb.block _ (block_lt h.bx)).trans h.bx, h.lg.below hb, (h.mp.below hb).wide (fun q hq => ⟨Nat.lt_of_lt_of_le hq.1 hb.size, hq.2⟩), h.off, h.bo, h.un⟩
theorem StS.low (h : StS w p ps pl b N E A U AT us s F n m) : ∀ q ∈ ps :: pl :: F, q < w.heap.size := fun q hq => by
  rcases List.mem_cons.1 hq with h' | h'
  · rw [h']; exact block_lt h.bx
  · exact h.lg.low q h'
theorem LgS.keep {G : List Nat} (h : LgS w p pl N E A U AT us s F) (hc : Chg G w w') (hG : ∀ q ∈ pl :: F, q ∉ G) : LgS w' p pl N E A U AT us s F :=
  ⟨(hc.block _ (block_lt h.lg) (hG pl (by simp))).trans h.lg, h.dk.keep hc (fun q hq => hG q (List.mem_cons_of_mem _ hq)), h.pf, h.inv, h.sl⟩
end
/-- While the units are gone through. -/
structure OpS (w0 : World) (p ps pl b N E A U : Nat) (AT : Int) (us : List (List UInt8)) (s : DSt) (F : List Nat) (aU : Option Addr) (nU cU : Nat) (sls : List Sl) (y29 : Value) (wr : World) : Prop where
  ex : ∃ (k n : Nat) (m : Pm), y29 = .int .i64 (k : Int) ∧ k ≤ nU ∧ n ≤ 1000 * k ∧ unitsM (us.take k) = some m ∧ LgS wr p pl N E A U AT us s F ∧ MpR wr b (fun q => q < wr.heap.size ∧ q ≠ b ∧ q ∉ ps :: pl :: F) n m ∧ UnQ wr (fun q => pl < q ∧ q < b) ⟨aU, nU, cU⟩ sls us ∧
    wr.heap[ps]? = some (.cells #[.pointer (some ⟨pl, 0, none⟩), .map (some b), .int .i64 (nU : Int)] 94 (0, 0)) ∧ Below w0.heap.size w0 wr
theorem open_made {p N E A U : Nat} {AT : Int} {us : List (List UInt8)} {s : DSt} {F : List Nat} {w1 : World} {pl : Nat} {S : Sl} {sls : List Sl} (nU : Nat) (hlg : LgS w1 p pl N E A U AT us s F) (hun : UnQ w1 (fun q => pl < q ∧ q < w1.heap.size) S sls us) :
    LgS ((w1.alloc (Obj.map #[] 0)).alloc (Obj.cells #[Value.pointer (some ⟨pl, 0, none⟩), Value.map (some w1.heap.size), Value.int .i64 (nU : Int)] 94)) p pl N E A U AT us s F ∧
    UnQ ((w1.alloc (Obj.map #[] 0)).alloc (Obj.cells #[Value.pointer (some ⟨pl, 0, none⟩), Value.map (some w1.heap.size), Value.int .i64 (nU : Int)] 94)) (fun q => pl < q ∧ q < w1.heap.size) S sls us ∧
    Below w1.heap.size w1 ((w1.alloc (Obj.map #[] 0)).alloc (Obj.cells #[Value.pointer (some ⟨pl, 0, none⟩), Value.map (some w1.heap.size), Value.int .i64 (nU : Int)] 94)) ∧
    MpR ((w1.alloc (Obj.map #[] 0)).alloc (Obj.cells #[Value.pointer (some ⟨pl, 0, none⟩), Value.map (some w1.heap.size), Value.int .i64 (nU : Int)] 94)) w1.heap.size (fun q => q < ((w1.alloc (Obj.map #[] 0)).alloc (Obj.cells #[Value.pointer (some ⟨pl, 0, none⟩), Value.map (some w1.heap.size), Value.int .i64 (nU : Int)] 94)).heap.size ∧ q ≠ w1.heap.size ∧ q ∉ (w1.heap.size + 1) :: pl :: F) 0 (fun _ => none) ∧
    ((w1.alloc (Obj.map #[] 0)).alloc (Obj.cells #[Value.pointer (some ⟨pl, 0, none⟩), Value.map (some w1.heap.size), Value.int .i64 (nU : Int)] 94)).heap[w1.heap.size + 1]? = some (.cells #[Value.pointer (some ⟨pl, 0, none⟩), Value.map (some w1.heap.size), Value.int .i64 (nU : Int)] 94 (0, 0)) ∧
    w1.heap.size + 1 ∉ pl :: F ∧ w1.heap.size ∉ (w1.heap.size + 1) :: pl :: F := by
  have hbel : Below w1.heap.size w1 ((w1.alloc (Obj.map #[] 0)).alloc (Obj.cells #[Value.pointer (some ⟨pl, 0, none⟩), Value.map (some w1.heap.size), Value.int .i64 (nU : Int)] 94)) := ((Below.refl _ w1).alloc (Nat.le_refl _) _).alloc (by simp) _
  have hs2 : (w1.alloc (Obj.map #[] 0)).heap.size = w1.heap.size + 1 := by simp
  refine ⟨hlg.below hbel, hun.below hbel, hbel, (MpR.made w1 _).below ((Below.refl (w1.alloc (Obj.map #[] 0)).heap.size _).alloc (Nat.le_refl _) _), ?_, fun hm => by have := hlg.low _ hm; omega, fun hm => ?_⟩
  · have h := block_new (w1.alloc (Obj.map #[] 0)) (Obj.cells #[Value.pointer (some ⟨pl, 0, none⟩), Value.map (some w1.heap.size), Value.int .i64 (nU : Int)] 94)
    rw [hs2] at h
    exact h
  · rcases List.mem_cons.1 hm with h | h
    · omega
    · have := hlg.low _ h; omega
/-- What Open answers. -/
def SOpen (p N E A U : Nat) (AT : Int) (us : List (List UInt8)) (s : DSt) (F : List Nat) (m : Pm) (w : World) (e : Ending) (w' : World) : Prop :=
  ∃ (ps pl b n : Nat), e = .returned (.tuple #[.pointer (some ⟨ps, 0, none⟩), .int .i64 0]) ∧ StS w' p ps pl b N E A U AT us s F n m ∧ Below w.heap.size w w' ∧ n ≤ 4194304 ∧ w.heap.size ≤ pl ∧ w.heap.size ≤ ps ∧ w.heap.size ≤ b
theorem storeOpen_any {p N E A U : Nat} {AT : Int} {us : List (List UInt8)} {s : DSt} {F : List Nat} {m : Pm} {w : World} (hd : Dk w p s F) (hi : Inv s E A U AT us) (hs : s.sec.length = N) (hm : unitsM us = some m) :
    Calls Try.prog 19 #[.pointer (some ⟨p, 0, none⟩)] w (SOpen p N E A U AT us s F m w) := by
  have HD := hid hd; have HI := hid hi; have HM := hid hm
  have hmm := @run_makeMap Try.prog
  clear hd hi hm
  go_enter Try.func19, Try.ntmps19
  go_wp2_with fail
  refine (openS_any HD.out HI.out hs).mono ?_
  rintro e w1 ⟨pl, aU, nU, cU, sls, rfl, hlg, hun, hb1, hpl⟩
  dsimp only
  have HLG := hid hlg; have HUN := hid hun; have HB1 := hid hb1; have HPL := hid hpl
  have hnU : nU ≤ 2047 := by
    have h1 := len_sizeAll us; have h2 := hlg.inv.sz; have h3 := hlg.inv.ul; have h4 := hlg.inv.ln; have h5 := hun.lu
    dsimp only at h5
    omega
  have HFL := hid hlg.low
  clear hlg hun hb1 hpl
  go_upto_region 5 with (fail)
  have hh := open_made nU HLG.out HUN.out
  clear HLG HUN
  generalize (w1.alloc (Obj.map #[] 0)).alloc (Obj.cells #[Value.pointer (some ⟨pl, 0, none⟩), Value.map (some w1.heap.size), Value.int .i64 (nU : Int)] 94) = w3 at hh ⊢
  have hb1s := HB1.out.size
  obtain ⟨ps, hps⟩ : ∃ x, w1.heap.size + 1 = x := ⟨_, rfl⟩
  rw [hps] at hh ⊢
  obtain ⟨hlg, hun, hbel, hm3, hx3, hpsn, hbn⟩ := hh
  have HB3 := hid (HB1.out.trans (hbel.mono HB1.out.size))
  clear hbel HB1
  obtain ⟨b, hb⟩ : ∃ x, w1.heap.size = x := ⟨_, rfl⟩
  rw [hb] at hun hm3 hx3 hbn hb1s hps HFL ⊢
  have HLG := hid hlg; have HUN := hid hun; have HM3 := hid hm3; have HX3 := hid hx3; have HPS := hid hpsn; have HBO := hid hbn; have HPSB := hid hps; have HB1S := hid hb1s
  clear hlg hun hm3 hx3 hpsn hbn hps hb hb1s hmm
  go_wp2_with fail
  go_loopw [29] (fun y29 wr => OpS w p ps pl b N E A U AT us s F aU nU cU sls y29 wr) (fun y29 _ => nU - (intOf y29).toNat)
  case atStart => exact ⟨⟨0, 0, fun _ => none, rfl, Nat.zero_le _, Nat.le_refl _, rfl, HLG.out, HM3.out, HUN.out, HX3.out, HB3.out⟩⟩
  case round =>
    clear HLG HM3 HUN HX3 HB3
    obtain ⟨k, n, m2, rfl, hk, hn, hum, hlg, hmp, hun, hx, hb⟩ := hrel.ex
    clear hrel
    have HLG := hid hlg; have HUN := hid hun; have HMP := hid hmp; have HX := hid hx; have HB := hid hb; have HUM := hid hum
    have hln := hun.len
    have hlu := hun.lu
    dsimp only at hln hlu
    clear hlg hun hmp hx hb hum
    by_cases k1 : k < nU
    · have k1z : (k : Int) < (nU : Int) := by omega
      have e1 : sls[k]? = some (sls[k]'(by omega)) := List.getElem?_eq_getElem _
      have e2 : us[k]? = some (us[k]'(by omega)) := List.getElem?_eq_getElem _
      obtain ⟨sl, hsl⟩ : ∃ y, sls[k]'(by omega) = y := ⟨_, rfl⟩
      obtain ⟨u, hu⟩ : ∃ y, us[k]'(by omega) = y := ⟨_, rfl⟩
      rw [hsl] at e1
      rw [hu] at e2
      clear hsl hu
      obtain ⟨r1, r2, r3, r4⟩ := HUN.out.rd k sl u e1 e2
      obtain ⟨bU, oU, haU, hcU⟩ := HUN.out.rc.cell k k1
      have hcell := hcU k sl.v (by rw [List.getElem?_map, e1]; rfl)
      dsimp only at haU
      subst haU
      have hcl : wr.cell? ⟨bU, oU + k, none⟩ = some (.slice sl.a sl.n sl.c) := hcell
      have HE2 := hid e2
      have HR1 := hid r1; have HR2 := hid r2
      have hsn : sl.n ≤ 140737488355328 := by omega
      clear hcell hcU e1 e2 r1 r2 r3 r4
      go_wp2_with fail
      clear hcl
      refine (read5_any sl.a sl.n sl.c u _ HR1.out HR2.out hsn).mono ?_
      intro e w4 hres
      obtain ⟨hb4, hres⟩ := hres
      have hnn : readCs u ≠ none := fun hno => by
        have h1 := unitsM_take us (by rw [HM.out]; exact fun h => by cases h) (k + 1)
        rw [List.take_add_one, HE2.out] at h1
        apply h1
        show unitsM (us.take k ++ [u]) = none
        rw [unitsM_snoc, hno]
        cases unitsM (us.take k) <;> rfl
      rcases hres with ⟨a2, n2, c2, l, rfl, hrc, hq⟩ | ⟨hno, rfl⟩
      · have HQ := hid hq; have HRC := hid hrc
        have HB4 := hid hb4
        have hokl := (okCs_iff.1 (readCs_some hrc).1).1
        have hln2 := hq.ch.len
        rw [List.length_map] at hokl
        dsimp only at hln2
        dsimp only
        clear hq hrc hb4 hnn
        have HLG4 := hid (HLG.out.below HB4.out)
        have HX4 := hid ((HB4.out.block _ (block_lt HX.out)).trans HX.out)
        have HMP4 := hid ((HMP.out.below HB4.out).wide (P' := fun q => q < wr.heap.size ∧ q ≠ b ∧ q ∉ ps :: pl :: F) (fun q hq => hq))
        have c1 : w4.cell? ⟨ps, 1, none⟩ = some (.map (some b)) := cell_of_block (j := 1) HX4.out rfl
        go_wp2_with fail
        clear c1
        have hbw := HMP.out.lt
        refine (does_any b n _ m2 ⟨a2, n2, c2⟩ l _ _ HMP4.out HQ.out (fun h => by have := h.1; omega) (fun q hq => hq.2.1) (by show n + n2 ≤ _; omega)).mono ?_
        rintro e w5 ⟨rfl, hmp5, hc5⟩
        dsimp only
        have hbps : b ∉ ps :: pl :: F := HBO.out
        have HRR : OpS w p ps pl b N E A U AT us s F (some ⟨bU, oU, none⟩) nU cU sls (.int .i64 ((k : Int) + 1)) w5 := ⟨⟨k + 1, n + n2, m2.does (l.map ChD.cg), rfl, k1, by omega, by
            rw [List.take_add_one, HE2.out]
            show unitsM (us.take k ++ [u]) = _
            rw [unitsM_snoc, HUM.out, Option.bind_some, HRC.out]
            rfl, HLG4.out.keep hc5 (fun q hq hm => hbps (by rw [← List.mem_singleton.1 hm]; exact List.mem_cons_of_mem _ hq)), hmp5.wide (fun q hq => by
            have h1 := HB4.out.size; have h2 := hc5.size
            rcases hq with h | h
            · exact ⟨by have := h.1; omega, h.2⟩
            · exact ⟨h.2, by omega, fun hm => by
                have h3 := h.1
                rcases List.mem_cons.1 hm with h' | h'
                · have := block_lt HX4.out; omega
                · have := HLG4.out.low q h'; omega⟩), (HUN.out.below HB4.out).keep hc5 (fun q hq hp => by have h1 := List.mem_singleton.1 hq; have h2 := hp.2; omega), (hc5.block _ (block_lt HX4.out) (fun hm => hbps (by rw [← List.mem_singleton.1 hm]; simp))).trans HX4.out, (HB.out.trans (HB4.out.mono HB.out.size)).trans (hc5.below (fun q hq => by rw [List.mem_singleton.1 hq]; exact HB1S.out) (Nat.le_trans HB.out.size HB4.out.size))⟩⟩
        clear hmp5 hc5 hbw hbps
        go_wp2_with fail
        go_roundw
        case rel => first | exact HRR | ((repeat apply Exists.intro); exact HRR) | ((repeat apply Exists.intro); exact ⟨HRR, rfl⟩)
        case measure => (simp [intOf] <;> omega)
      · exact absurd hno hnn
    · have k1z : ¬ (k : Int) < (nU : Int) := by omega
      obtain rfl : k = nU := by omega
      have htk : us.take k = us := List.take_of_length_le (by omega)
      have hmm : m2 = m := by
        have h := HUM.out
        rw [htk, HM.out] at h
        cases h
        rfl
      go_wp2_with fail
      go_ret2
      exact ⟨ps, pl, b, n, rfl, ⟨by rw [hlu]; exact HX.out, HLG.out, by rw [← hmm]; exact HMP.out, HPS.out, HBO.out, HM.out⟩, HB.out, by omega, HPL.out, by have h1 := HB1S.out; have h2 := HPSB.out; omega, HB1S.out⟩
end Go.Proofs.Ytipkeifpkemcdaa
namespace Go.Proofs.Ytipkeifpkemcdaa
open Go.RowKit Go.Maps Go.ChangeMaps Go.MapKept
set_option linter.unusedVariables false
set_option linter.unusedSimpArgs false
set_option maxRecDepth 1000000
set_option maxHeartbeats 6400000
theorem storeDead_any (ps pl p e0 : Nat) (a0 u0 at0 : Int) (dead : Bool) (v1 v2 : Value) (w : World) (hx : w.heap[ps]? = some (.cells #[.pointer (some ⟨pl, 0, none⟩), v1, v2] 94 (0, 0))) (hl : w.heap[pl]? = some (.cells (logArr p e0 a0 u0 at0 dead) 118 (0, 0))) :
    Calls Try.prog 28 #[.pointer (some ⟨ps, 0, none⟩)] w fun e w' => e = .returned (.bool dead) ∧ w = w' := by
  have c0 : w.cell? ⟨ps, 0, none⟩ = some (.pointer (some ⟨pl, 0, none⟩)) := cell_of_block (j := 0) hx rfl
  have HL := hid hl
  clear hx hl
  go_enter Try.func28, Try.ntmps28
  go_wp2_with fail
  refine (logDead_any pl p e0 a0 u0 at0 dead _ HL.out).mono ?_
  rintro e w2 ⟨rfl, rfl⟩
  dsimp only
  go_wp2_with fail
  go_ret
  exact ⟨rfl, rfl⟩
/-- What Get answers. -/
def GetRes (o : Option (List UInt8)) (w : World) (e : Ending) (w' : World) : Prop := Below w.heap.size w w' ∧
  ((o = none ∧ e = .returned (.tuple #[.slice none 0 0, .bool false])) ∨ ∃ l a n c, o = some l ∧ e = .returned (.tuple #[.slice a n c, .bool true]) ∧ RdB w' a n l ∧ n ≤ 140737488355328)
theorem get_any (ps b n : Nat) (P : Nat → Prop) (m : Pm) (v0 v2 : Value) (key : ByteArray) (w : World) (hx : w.heap[ps]? = some (.cells #[v0, .map (some b), v2] 94 (0, 0))) (hm : MpR w b P n m) (hk : key.size ≤ 140737488355328) :
    Calls Try.prog 50 #[.pointer (some ⟨ps, 0, none⟩), .string key] w (GetRes (m key.data.toList) w) := by
  obtain ⟨i, hi, hz0, hz1, hz2⟩ := info_parts byteInfo
  have c1 : w.cell? ⟨ps, 1, none⟩ = some (.map (some b)) := cell_of_block (j := 1) hx rfl
  obtain ⟨D, hown, hpd⟩ := hm
  have HOWN := hid hown; have HPD := hid hpd
  have hzz : ∀ w, (zeroValue 24).run Try.prog w = .ok (.slice none 0 0) w := fun w => by
    obtain ⟨j, hj, hj0⟩ : ∃ j, Try.prog.info? 24 = some j ∧ j.zero = some (.slice none 0 0) := by
      have h := (by kernel_rfl : (Try.prog.info? 24).map (·.zero) = some (some (.slice none 0 0)))
      cases hi : Try.prog.info? 24 with
      | none => rw [hi] at h; cases h
      | some j => rw [hi] at h; simp at h; exact ⟨j, rfl, h⟩
    simp [zeroValue, typeInfo, hj, hj0]
  have HZZ := hid hzz
  clear hown hpd hx hzz
  go_enter Try.func50, Try.ntmps50
  go_wp2_with (at_lookup; refine haltI ?_)
  refine haltO ?_
  refine wpList_lookup_own_ok _ rfl _ _ 92 rfl 9 24 strKeyed Try.underlying92 tokR (HZZ.out _) (.held (.slice none 0 0)) [] rfl b n D rfl HOWN.out (.string key) (.string key.data.toList) rfl (key_of (Nat.le_trans hk (by decide))) ?_
  intro v ps' hv
  have HV := hid hv
  clear hv c1
  cases hmk : m key.data.toList with
  | none =>
    have HMK := hid hmk
    rw [HPD.out.off _ hmk]
    clear hmk
    go_wp2_with fail
    go_ret2
    exact ⟨Below.refl _ _, .inl ⟨HMK.out, rfl⟩⟩
  | some l =>
    obtain ⟨hh, s, hat, hrd, hno, hsm, hP⟩ := HPD.out.on _ l hmk
    rw [hh]
    have HMK := hid hmk
    clear hmk
    have hvs : v = .slice s.a s.n s.c := by
      have h := HV.out
      unfold tokR at h
      rw [hat] at h
      simp only [Option.some.injEq, Prod.mk.injEq, DataW.held.injEq] at h
      exact h.1
    subst hvs
    have HRD := hid hrd; have HNO := hid hno
    have hsm' := hsm
    clear hat hrd hno hP hh hsm HV
    have HA1 := hid (((Below.refl w.heap.size w).alloc (Nat.le_refl _) (.cells #[] 5)))
    go_wp2_with (at_builtin; refine haltI ?_)
    refine haltO ?_
    refine wpList_append_c rfl _ _ 24 rfl w.heap.size 5 i _ 1 1 Try.underlying24 hi hz0 hz1 hz2 rfl (by decide) (.slice (some ⟨w.heap.size, 0, none⟩) 0 0) 0 [] rfl (World.ownsRow_made w #[] 0 (Nat.le_refl _) (by unfold maxLen; omega) rfl) s.a s.n s.c (l.map B8) rfl (by rw [Nat.mul_one]; exact (HRD.out.below HA1.out).toC) (B8s_one5 _) HNO.out (by unfold maxLen; omega) (by omega) (by simp) ?_
    intro aX cX w7
    rw [Nat.zero_add, List.nil_append]
    intro hown hgw hfr
    have HO7 := hid hown
    have HB7 := hid (HA1.out.grown hgw HA1.out.size (fun q hq => by cases hq; exact Nat.le_refl _))
    clear hown hgw hfr
    go_wp2_with fail
    go_ret2
    exact ⟨HB7.out, .inr ⟨l, aX, s.n, cX, HMK.out, rfl, RdB.of_own HO7.out, hsm'⟩⟩
end Go.Proofs.Ytipkeifpkemcdaa
namespace Go.Proofs.Ytipkeifpkemcdaa
open Go.RowKit Go.Maps Go.ChangeMaps Go.MapKept
set_option linter.unusedVariables false
set_option linter.unusedSimpArgs false
set_option maxRecDepth 1000000
set_option maxHeartbeats 6400000
theorem UnQ.of1 {w : World} {P : Nat → Prop} {g : Nat} {a : Option Addr} {n c : Nat} {l : List UInt8} {T : TypeId} (hb : w.heap[g]? = some (.cells #[.slice a n c] T (0, 0))) (hr : RdB w a n l) (hno : a = none → c = 0) (hn : n ≤ 1099511627776) (hg : P g) (ha : ∀ b off sp, a = some ⟨b, off, sp⟩ → P b) :
    UnQ w P ⟨some ⟨g, 0, none⟩, 1, 1⟩ [⟨a, n, c⟩] [l] := by
  refine ⟨⟨rfl, fun j hj => ⟨g, 0, rfl, fun i u hu => ?_⟩⟩, rfl, (fun h => by cases h), fun b off sp e => by cases e; exact hg, fun k sl m h1 h2 => ?_⟩
  · cases i with
    | zero => simp only [List.map_cons, List.map_nil, List.getElem?_cons_zero, Option.some.injEq] at hu; rw [← hu]; exact cell_of_block (j := 0) hb rfl
    | succ i => simp at hu
  · cases k with
    | zero =>
      simp only [List.getElem?_cons_zero, Option.some.injEq] at h1 h2
      rw [← h1, ← h2]
      exact ⟨hr, hno, hn, ha⟩
    | succ k => simp at h1
/-- All pairs, rising, as changes. -/
structure IsWhole (m : Pm) (l : List Cg) : Prop where
  dz : Pm.does (fun _ => none) l = m
  has : ∀ c ∈ l, c.has = true
  up : l.Pairwise (fun a b => bytesBefore a.key b.key = true)
def WholeRes (m : Pm) (w : World) (e : Ending) (w' : World) : Prop := ∃ l : List Cg, IsWhole m l ∧ LayRes w l e w'
/-- What one unit comes to. -/
def OneOut (w : World) (p ps pl b N E A U : Nat) (AT : Int) (us : List (List UInt8)) (s : DSt) (F : List Nat) (n : Nat) (m : Pm) (cs : List Cg) (e : Ending) (w' : World) : Prop :=
  ∃ (ec : Int) (s' : DSt) (F' : List Nat), e = .returned (.int .i64 ec) ∧ Chg (ps :: pl :: F) w w' ∧ Fresh F F' w ∧ s'.works ≤ s.works + 4000000 ∧ (UpD s → ec ≠ 9 ∧ UpD s') ∧
    ((ec = 0 ∧ cs = [] ∧ s' = s ∧ StS w' p ps pl b N E A U AT us s' F' n m) ∨ (ec = 1 ∧ cs ≠ [] ∧ okCs cs = false ∧ s' = s ∧ StS w' p ps pl b N E A U AT us s' F' n m) ∨
     (ec = 2 ∧ cs ≠ [] ∧ okCs cs = true ∧ (N - 2) / 2 - U < unitSize (layCs cs).length ∧ (∃ l, IsWhole (m.does cs) l ∧ (okCs l = true → (N - 2) / 2 < unitSize (layCs l).length)) ∧ s' = s ∧ StS w' p ps pl b N E A U AT us s' F' n m) ∨
     (ec = 0 ∧ cs ≠ [] ∧ okCs cs = true ∧ ∃ (b' E' A' U' n' : Nat) (AT' : Int) (us' : List (List UInt8)), E' = E + 1 ∧ n' = n + cs.length ∧ StS w' p ps pl b' N E' A' U' AT' us' s' F' n' (m.does cs) ∧
       ((unitSize (layCs cs).length ≤ (N - 2) / 2 - U ∧ U' = U + unitSize (layCs cs).length ∧ us' = us ++ [layCs cs]) ∨ ((N - 2) / 2 - U < unitSize (layCs cs).length ∧ ∃ l, IsWhole (m.does cs) l ∧ okCs l = true ∧ unitSize (layCs l).length ≤ (N - 2) / 2 ∧ U' = unitSize (layCs l).length ∧ us' = [layCs l]))) ∨
     (ec = 9 ∧ cs ≠ [] ∧ okCs cs = true ∧ Dk w' p s' F' ∧ s'.sec.length = N ∧ ∀ fates, ∃ (E' A' U' : Nat) (AT' : Int) (us' : List (List UInt8)), E' ≤ E + 1 ∧ Inv (s'.crash fates) E' A' U' AT' us' ∧ (unitsM us' = some m ∨ unitsM us' = some (m.does cs))))
theorem size1 (u : List UInt8) : sizeAll [u] = unitSize u.length := by simp [sizeAll]
theorem units_one (us : List (List UInt8)) (m : Pm) (cs : List Cg) (hm : unitsM us = some m) (hok : okCs cs = true) : unitsM (us ++ [layCs cs]) = some (m.does cs) := by
  rw [unitsM_snoc, hm, Option.bind_some, readCs_lay hok]
  rfl
theorem units_whole (m : Pm) (l : List Cg) (h : IsWhole m l) (hok : okCs l = true) : unitsM [layCs l] = some m := by
  have := units_one [] (fun _ => none) l rfl hok
  rw [List.nil_append, h.dz] at this
  exact this
/-- The new pairs are stored. -/
theorem StS.stored {w0 w3 w4 w' : World} {p ps pl b b' N E A U E' A' U' : Nat} {AT AT' : Int} {us us' : List (List UInt8)} {s s' : DSt} {F F' : List Nat} {n n' : Nat} {m m' : Pm} (h : StS w0 p ps pl b N E A U AT us s F n m) (h03 : Below w0.heap.size w0 w3) (hb : w0.heap.size ≤ b')
    (hm : MpR w3 b' (fun q => (q < w0.heap.size ∧ q ≠ b ∧ q ∉ ps :: pl :: F) ∨ (b' < q ∧ q < w3.heap.size)) n' m') (hc : Chg (pl :: F) w3 w4) (hf : Fresh F F' w3) (hl : LgS w4 p pl N E' A' U' AT' us' s' F') (hu : unitsM us' = some m')
    (hx : w'.heap[ps]? = some (.cells #[.pointer (some ⟨pl, 0, none⟩), .map (some b'), .int .i64 (us'.length : Int)] 94 (0, 0))) (hc' : Chg [ps] w4 w') : StS w' p ps pl b' N E' A' U' AT' us' s' F' n' m' := by
  have hlow := h.low
  have hbl := hm.lt
  have hsz := h03.size
  have hps : ps ∉ pl :: F' := fun hm => by
    rcases List.mem_cons.1 hm with h' | h'
    · exact h.off (by rw [h']; simp)
    · rcases hf ps h' with h'' | h''
      · exact h.off (List.mem_cons_of_mem _ h'')
      · have := hlow ps (by simp); omega
  have hbn : b' ∉ ps :: pl :: F' := fun hm => by
    rcases List.mem_cons.1 hm with h' | h'
    · have := hlow ps (by simp); omega
    · rcases List.mem_cons.1 h' with h' | h'
      · have := hlow pl (by simp); omega
      · rcases hf b' h' with h'' | h''
        · have := hlow b' (List.mem_cons_of_mem _ (List.mem_cons_of_mem _ h'')); omega
        · omega
  have h4 := hm.keep hc (fun hm => by have := hlow b' (List.mem_cons_of_mem _ hm); omega) (fun q hq hp => by
    rcases hp with hp | hp
    · exact hp.2.2 (List.mem_cons_of_mem _ hq)
    · have := hlow q (List.mem_cons_of_mem _ hq); have := hp.1; omega)
  have h5 := h4.keep hc' (fun hm => hbn (by rw [List.mem_singleton.1 hm]; simp)) (fun q hq hp => by
    have e := List.mem_singleton.1 hq
    rcases hp with hp | hp
    · exact hp.2.2 (by rw [e]; simp)
    · have h1 := hlow ps (by simp); have := hp.1; omega)
  refine ⟨hx, hl.keep hc' (fun q hq hm => hps (by rw [← List.mem_singleton.1 hm]; exact hq)), h5.wide (fun q hp => ?_), hps, hbn, hu⟩
  have h6 := hc.size; have h7 := hc'.size
  refine ⟨by rcases hp with hp | hp <;> omega, by rcases hp with hp | hp <;> omega, fun hm => ?_⟩
  rcases List.mem_cons.1 hm with h' | h'
  · rcases hp with hp | hp
    · exact hp.2.2 (by rw [h']; simp)
    · have := hlow ps (by simp); omega
  · rcases List.mem_cons.1 h' with h' | h'
    · rcases hp with hp | hp
      · exact hp.2.2 (by rw [h']; simp)
      · have := hlow pl (by simp); omega
    · rcases hf q h' with h'' | h''
      · rcases hp with hp | hp
        · exact hp.2.2 (List.mem_cons_of_mem _ (List.mem_cons_of_mem _ h''))
        · have := hlow q (List.mem_cons_of_mem _ (List.mem_cons_of_mem _ h'')); omega
      · rcases hp with hp | hp <;> omega
/-- .. nothing was stored. -/
theorem StS.stays {w0 w3 w4 : World} {p ps pl b N E A U : Nat} {AT : Int} {us : List (List UInt8)} {s s' : DSt} {F F' : List Nat} {n : Nat} {m : Pm} (h : StS w0 p ps pl b N E A U AT us s F n m) (h03 : Below w0.heap.size w0 w3) (hc : Chg (pl :: F) w3 w4) (hf : Fresh F F' w3) (hl : LgS w4 p pl N E A U AT us s' F') : StS w4 p ps pl b N E A U AT us s' F' n m := by
  have hlow := h.low
  have hbl := h.mp.lt
  have hsz := h03.size
  have h3 := h.below h03
  have hps : ps ∉ pl :: F' := fun hm => by
    rcases List.mem_cons.1 hm with h' | h'
    · exact h.off (by rw [h']; simp)
    · rcases hf ps h' with h'' | h''
      · exact h.off (List.mem_cons_of_mem _ h'')
      · have := hlow ps (by simp); omega
  have hbn : b ∉ ps :: pl :: F' := fun hm => by
    rcases List.mem_cons.1 hm with h' | h'
    · exact h.bo (by rw [h']; simp)
    · rcases List.mem_cons.1 h' with h' | h'
      · exact h.bo (by rw [h']; simp)
      · rcases hf b h' with h'' | h''
        · exact h.bo (List.mem_cons_of_mem _ (List.mem_cons_of_mem _ h''))
        · omega
  have hmp := (h.mp.below h03).keep hc (fun hm => h.bo (List.mem_cons_of_mem _ hm)) (fun q hq hp => hp.2.2 (List.mem_cons_of_mem _ hq))
  refine ⟨(hc.block _ (block_lt h3.bx) h.off).trans h3.bx, hl, hmp.wide (fun q hp => ⟨by have := hc.size; omega, hp.2.1, fun hm => ?_⟩), hps, hbn, h.un⟩
  rcases List.mem_cons.1 hm with h' | h'
  · exact hp.2.2 (by rw [h']; simp)
  · rcases List.mem_cons.1 h' with h' | h'
    · exact hp.2.2 (by rw [h']; simp)
    · rcases hf q h' with h'' | h''
      · exact hp.2.2 (List.mem_cons_of_mem _ (List.mem_cons_of_mem _ h''))
      · omega
end Go.Proofs.Ytipkeifpkemcdaa
namespace Go.Proofs.Ytipkeifpkemcdaa
open Go.RowKit Go.Maps Go.ChangeMaps Go.MapKept
set_option linter.unusedVariables false
set_option linter.unusedSimpArgs false
set_option maxRecDepth 1000000
set_option maxHeartbeats 6400000
theorem one_any {p ps pl b N E A U : Nat} {AT : Int} {us : List (List UInt8)} {s : DSt} {F : List Nat} {n : Nat} {m : Pm} {w : World} (hS : StS w p ps pl b N E A U AT us s F n m) (sa : Option Addr) (sn sc : Nat) (l : List ChD) (PQ : Nat → Prop) (hl : ChQ w PQ ⟨sa, sn, sc⟩ l) (hQ : ∀ q, PQ q → q < w.heap.size)
    (hE : E < 4611686018427387904) (hw : s.works < 1125899906842624) (hn : n ≤ 35184372088832)
    (hwh : (N - 2) / 2 - U < unitSize (layCs (l.map ChD.cg)).length → ∀ (b' n' : Nat) (P : Nat → Prop) (w' : World), MpR w' b' P n' (m.does (l.map ChD.cg)) → n' ≤ 70368744177664 → (∀ q, P q → q < w'.heap.size) → Calls Try.prog 57 #[.map (some b')] w' (WholeRes (m.does (l.map ChD.cg)) w')) :
    Calls Try.prog 53 #[.pointer (some ⟨ps, 0, none⟩), .slice sa sn sc] w (OneOut w p ps pl b N E A U AT us s F n m (l.map ChD.cg)) := by
  have HS := hid hS; have HL := hid hl; have HQ := hid hQ; have HWH := hid hwh
  have hln := hl.ch.len
  have hsm := hl.ch.sm
  dsimp only at hln hsm
  have hul : us.length ≤ 2047 := by
    have h1 := len_sizeAll us; have h2 := hS.lg.inv.sz; have h3 := hS.lg.inv.ul; have h4 := hS.lg.inv.ln
    omega
  clear hS hl hQ hwh
  go_enter Try.func53, Try.ntmps53
  by_cases h0 : sn = 0
  · subst h0
    have hl0 : l = [] := List.eq_nil_of_length_eq_zero hln
    go_wp2_with fail
    go_ret
    exact ⟨0, s, F, rfl, Chg.refl _ _, fun q hq => .inl hq, by omega, fun h => ⟨by decide, h⟩, .inl ⟨rfl, by rw [hl0]; rfl, rfl, HS.out⟩⟩
  · have hne : ((sn : Int) == 0) = false := by rw [beq_eq_false_iff_ne]; omega
    have hcs : l.map ChD.cg ≠ [] := fun h => h0 (by rw [← hln, ← List.length_map (f := ChD.cg), h]; rfl)
    have HCS := hid hcs
    clear hcs
    go_wp2_with fail
    refine (lay5_any sa sn sc l _ HL.out.ch).mono ?_
    intro e w1 hres
    obtain ⟨hb1, hres⟩ := hres
    have HB1 := hid hb1
    clear hb1
    rcases hres with ⟨hok, a1, n1, c1, rfl, ho1⟩ | ⟨hok, rfl⟩
    · have HOK := hid hok; have HO1 := hid ho1
      have hokl := (okCs_iff.1 hok).1
      rw [List.length_map, hln] at hokl
      have hlen := layCs_len hok
      have hl1 := (RdB.of_own ho1).len
      dsimp only
      clear hok ho1
      have HS1 := hid (HS.out.below HB1.out)
      go_wp2_with fail
      refine (behind_any ps b n _ m _ _ _ ⟨sa, sn, sc⟩ l _ _ HS1.out.bx HS1.out.mp (fun q hq => hq.1) (HL.out.below HB1.out) (fun q hq => Nat.lt_of_lt_of_le (HQ.out q hq) HB1.out.size) (by show n + sn ≤ _; omega)).mono ?_
      rintro e w2 ⟨b', rfl, hbb, hm2, hb2⟩
      dsimp only
      have HBB := hid (Nat.le_trans HB1.out.size hbb); have HBB1 := hid hbb; have HM2 := hid hm2; have HB2 := hid hb2
      clear hbb hm2 hb2
      have HS2 := hid (HS1.out.below HB2.out)
      have cu : w2.cell? ⟨ps, 2, none⟩ = some (.int .i64 (us.length : Int)) := cell_of_block (j := 2) HS2.out.bx rfl
      have cl : w2.cell? ⟨ps, 0, none⟩ = some (.pointer (some ⟨pl, 0, none⟩)) := cell_of_block (j := 0) HS2.out.bx rfl
      go_wp2_with fail
      clear cu cl
      have bA : Below w2.heap.size w2 (w2.alloc (Obj.cells #[Value.slice a1 n1 c1] 24)) := (Below.refl _ _).alloc (Nat.le_refl _) _
      have hA := block_new w2 (Obj.cells #[Value.slice a1 n1 c1] 24)
      obtain ⟨wA, hwA⟩ : ∃ y, w2.alloc (Obj.cells #[Value.slice a1 n1 c1] 24) = y := ⟨_, rfl⟩
      rw [hwA] at bA hA ⊢
      clear hwA
      have hrA := ((RdB.of_own HO1.out).below HB2.out).below bA
      have hunq : UnQ wA (fun _ => True) ⟨some ⟨w2.heap.size, 0, none⟩, 1, 1⟩ [⟨a1, n1, c1⟩] [layCs (l.map ChD.cg)] := UnQ.of1 hA hrA (own_slice HO1.out).2.1 (by omega) trivial (fun _ _ _ _ => trivial)
      have HB1A := hid (HB2.out.trans (bA.mono HB2.out.size))
      have HSA := hid (HS2.out.below bA)
      have HMA := hid ((HM2.out.below bA).wide (P' := fun q => (q < w1.heap.size ∧ q ≠ b ∧ q ∉ ps :: pl :: F) ∨ (b' < q ∧ q < wA.heap.size)) (fun q hq => hq.imp id (fun h => ⟨h.1, Nat.lt_of_lt_of_le h.2 bA.size⟩)))
      have hus : unitSize (layCs (l.map ChD.cg)).length ≤ 1026600 := by unfold unitSize; omega
      have HUS := hid hus
      have HWA := hid bA.size
      clear hA hrA bA
      refine (appendS_any HSA.out.lg _ 1 1 [layCs (l.map ChD.cg)] hunq.un (by omega) (by rw [size1]; omega) (by omega)).mono ?_
      intro e w3 hout
      obtain ⟨ec, s3, F3, rfl, hc3, hf3, hk3, hu3, hcs3⟩ := hout
      rw [size1] at hk3 hcs3
      rw [if_neg (by simp), if_neg (by simp)] at hcs3
      have HC3 := hid hc3; have HF3 := hid hf3; have HK3 := hid hk3; have HU3 := hid hu3
      have HPS3 := hid ((hc3.block _ (block_lt HSA.out.bx) HSA.out.off).trans HSA.out.bx)
      have HCW := hid (((Chg.of_below HB1.out (ps :: pl :: F)).trans (Chg.of_below HB1A.out (ps :: pl :: F)) (fun q hq => .inl hq)).trans hc3 (fun q hq => .inl (List.mem_cons_of_mem _ hq)))
      have HFW := hid (show Fresh F F3 w from fun q hq => (hf3 q hq).imp id (fun h => Nat.le_trans HB1.out.size (Nat.le_trans HB1A.out.size h)))
      clear hunq hc3 hf3 hk3 hu3
      dsimp only
      rcases hcs3 with ⟨rfl, hfull, hlg3, rfl⟩ | ⟨rfl, hfit, hlg3⟩ | ⟨rfl, hfit, hd3, hs3, hcr3⟩
      · have HLG3 := hid hlg3; have HFU := hid hfull
        clear hlg3 hfull hus
        have HST3 := hid (HS1.out.stays HB1A.out HC3.out HF3.out HLG3.out)
        have HM3 := hid ((HMA.out.keep HC3.out (fun hm => by have := HS1.out.low b' (List.mem_cons_of_mem _ hm); have := HBB1.out; omega) (fun q hq hp => by
          rcases hp with hp | hp
          · exact hp.2.2 (List.mem_cons_of_mem _ hq)
          · have := HS1.out.low q (List.mem_cons_of_mem _ hq); have h1 := hp.1; have := HBB1.out; omega)).wide (P' := fun q => (q < w1.heap.size ∧ q ≠ b ∧ q ∉ ps :: pl :: F) ∨ (b' < q ∧ q < w3.heap.size)) (fun q hq => hq.imp id (fun h => ⟨h.1, Nat.lt_of_lt_of_le h.2 HC3.out.size⟩)))
        go_wp2_with fail
        refine (HWH.out HFU.out b' (n + sn) _ _ HM3.out (by omega) (fun q hq => by
          have h1 := HB1A.out.size; have h2 := HC3.out.size
          rcases hq with h | h
          · have := h.1; omega
          · exact h.2)).mono ?_
        intro e w4 hres
        obtain ⟨wl, hwl, hb4, hres⟩ := hres
        have HWL := hid hwl; have HB4 := hid hb4
        clear hwl hb4
        rcases hres with ⟨hok4, a4, n4, c4, rfl, ho4⟩ | ⟨hok4, rfl⟩
        · have HOK4 := hid hok4; have HO4 := hid ho4
          have hlen4 := layCs_len hok4
          have hl4 := (RdB.of_own ho4).len
          clear hok4 ho4
          dsimp only
          have HLG4 := hid (HLG3.out.below HB4.out)
          have HPS4 := hid ((HB4.out.block _ (block_lt HPS3.out)).trans HPS3.out)
          have cl : w4.cell? ⟨ps, 0, none⟩ = some (.pointer (some ⟨pl, 0, none⟩)) := cell_of_block (j := 0) HPS4.out rfl
          go_wp2_with fail
          clear cl
          refine (resetS_any HLG4.out a4 n4 c4 _ (RdB.of_own HO4.out) (own_slice HO4.out).2.1 (by omega) (by omega) (by omega)).mono ?_
          intro e w5 hout
          obtain ⟨ec, s5, F5, rfl, hc5, hf5, hk5, hu5, hcs5⟩ := hout
          have hus4 : unitSize (layCs wl).length ≤ 1026600 := by unfold unitSize; omega
          have HC5 := hid hc5; have HF5 := hid hf5; have HK5 := hid hk5; have HU5 := hid hu5; have HUS4 := hid hus4
          have hoff3 : ps ∉ pl :: F3 := HST3.out.off
          have HPSW := hid ((hc5.block _ (block_lt HPS4.out) hoff3).trans HPS4.out)
          have HFW5 := hid (show Fresh F F5 w from fun q hq => by
            have h1 := HB1.out.size; have h2 := HB1A.out.size; have h3 := HC3.out.size; have h4 := HB4.out.size
            rcases hf5 q hq with h | h
            · exact HFW.out q h
            · exact .inr (by omega))
          have hcA : Chg (pl :: F) wA w5 := (HC3.out.trans (Chg.of_below HB4.out (pl :: F)) (fun q hq => .inl hq)).trans hc5 (fun q hq => by
            have h1 := HB4.out.size; have h2 := HC3.out.size
            rcases List.mem_cons.1 hq with h | h
            · exact .inl (by rw [h]; simp)
            · exact (HF3.out q h).imp (fun h => List.mem_cons_of_mem _ h) (fun h => h))
          have HCA := hid hcA
          have HFA := hid (show Fresh F F5 wA from fun q hq => by
            have h3 := HC3.out.size; have h4 := HB4.out.size
            rcases hf5 q hq with h | h
            · exact HF3.out q h
            · exact .inr (by omega))
          have HCW5 := hid (((Chg.of_below HB1.out (ps :: pl :: F)).trans (Chg.of_below HB1A.out (ps :: pl :: F)) (fun q hq => .inl hq)).trans hcA (fun q hq => .inl (List.mem_cons_of_mem _ hq)))
          clear hc5 hf5 hk5 hu5 hus4 hoff3 hcA
          dsimp only
          rcases hcs5 with ⟨rfl, hfull5, hlg5, rfl⟩ | ⟨rfl, hfit5, hlg5⟩ | ⟨rfl, hfit5, hd5, hs5, hcr5⟩
          · have HLG5 := hid hlg5; have HFU5 := hid hfull5
            clear hlg5 hfull5
            go_wp2_with fail
            go_ret
            exact ⟨2, _, F5, rfl, HCW5.out, HFW5.out, by omega, fun h => ⟨by decide, h⟩, .inr (.inr (.inl ⟨rfl, HCS.out, HOK.out, HFU.out, ⟨wl, HWL.out, fun _ => HFU5.out⟩, rfl, HS1.out.stays HB1A.out HCA.out HFA.out HLG5.out⟩))⟩
          · have HLG5 := hid hlg5; have HFI5 := hid hfit5
            clear hlg5 hfit5
            have hps0 : w5.heap[ps]? = some (.cells #[.pointer (some ⟨pl, 0, none⟩), .map (some b), .int .i64 (us.length : Int)] 94 (0, 0)) := HPSW.out
            have HPS0 := hid hps0
            have c1 : w5.cell? ⟨ps, 1, none⟩ = some (.map (some b)) := cell_of_block (j := 1) hps0 rfl
            have c2 : w5.cell? ⟨ps, 2, none⟩ = some (.int .i64 (us.length : Int)) := cell_of_block (j := 2) hps0 rfl
            have f1 : ∀ j, w5.frozen? ⟨ps, j, none⟩ = false := fun j => frozen_of_block HPS0.out
            clear hps0
            go_upto_region 17 with (fail)
            clear c1 c2 f1
            have hx8 := block_setCell (j := 2) (block_setCell (j := 1) HPS0.out (.map (some b'))) (.int .i64 1)
            have hc8 : Chg [ps] w5 ((w5.setCell ⟨ps, 1, none⟩ (.map (some b'))).setCell ⟨ps, 2, none⟩ (.int .i64 1)) := ((Chg.refl [ps] w5).setCell (.inl (by simp)) _).setCell (.inl (by simp)) _
            generalize (w5.setCell ⟨ps, 1, none⟩ (.map (some b'))).setCell ⟨ps, 2, none⟩ (.int .i64 1) = w8 at *
            have HX8 := hid (show w8.heap[ps]? = some (.cells #[.pointer (some ⟨pl, 0, none⟩), .map (some b'), .int .i64 1] 94 (0, 0)) from hx8)
            have HC8 := hid hc8
            clear hx8 hc8
            go_wp2_with fail
            go_ret
            have hst := StS.stored (us' := [layCs wl]) HS1.out HB1A.out HBB1.out HMA.out HCA.out HFA.out HLG5.out (units_whole _ wl HWL.out HOK4.out) HX8.out HC8.out
            refine ⟨0, s5, F5, rfl, HCW5.out.trans HC8.out (fun q hq => .inl (by rw [List.mem_singleton.1 hq]; simp)), HFW5.out, by have h1 := HK5.out; have h2 := HUS4.out; omega, fun h => ⟨by decide, (HU5.out ((HU3.out h).2)).2⟩, .inr (.inr (.inr (.inl ⟨rfl, HCS.out, HOK.out, b', _, _, _, _, _, _, rfl, by rw [List.length_map, hln], hst, .inr ⟨HFU.out, wl, HWL.out, HOK4.out, by have := HFI5.out; omega, rfl, rfl⟩⟩)))⟩
          · have HD5 := hid hd5; have HS5 := hid hs5; have HCR5 := hid hcr5
            clear hd5 hs5 hcr5 hfit5
            go_wp2_with fail
            go_ret
            refine ⟨9, s5, F5, rfl, HCW5.out, HFW5.out, by have h1 := HK5.out; have h2 := HUS4.out; omega, fun h => absurd rfl (HU5.out ((HU3.out h).2)).1, .inr (.inr (.inr (.inr ⟨rfl, HCS.out, HOK.out, HD5.out, HS5.out, fun fates => ?_⟩)))⟩
            rcases HCR5.out fates with h | h
            · exact ⟨E, A, U, AT, us, by omega, h, .inl HS.out.un⟩
            · exact ⟨_, _, _, _, _, Nat.le_refl _, h, .inr (units_whole _ wl HWL.out HOK4.out)⟩
        · have HOK4 := hid hok4
          clear hok4
          dsimp only
          go_wp2_with fail
          go_ret
          exact ⟨2, _, F3, rfl, HCW.out.trans (Chg.of_below HB4.out []) (fun q hq => by cases hq), HFW.out, by omega, fun h => ⟨by decide, h⟩, .inr (.inr (.inl ⟨rfl, HCS.out, HOK.out, HFU.out, ⟨wl, HWL.out, fun h => by rw [HOK4.out] at h; cases h⟩, rfl, HST3.out.below HB4.out⟩))⟩
      · have HLG3 := hid hlg3; have HFI := hid hfit
        have HPSW := HPS3
        clear hlg3 hfit hus
        have hps0 : w3.heap[ps]? = some (.cells #[.pointer (some ⟨pl, 0, none⟩), .map (some b), .int .i64 (us.length : Int)] 94 (0, 0)) := HPSW.out
        have HPS0 := hid hps0
        have c1 : w3.cell? ⟨ps, 1, none⟩ = some (.map (some b)) := cell_of_block (j := 1) hps0 rfl
        have c2 : w3.cell? ⟨ps, 2, none⟩ = some (.int .i64 (us.length : Int)) := cell_of_block (j := 2) hps0 rfl
        have f1 : ∀ j, w3.frozen? ⟨ps, j, none⟩ = false := fun j => frozen_of_block HPS0.out
        clear hps0
        go_upto_region 17 with (fail)
        clear c1 c2 f1
        have hx8 := block_setCell (j := 2) (block_setCell (j := 1) HPS0.out (.map (some b'))) (.int .i64 ((us.length : Int) + 1))
        have hc8 : Chg [ps] w3 ((w3.setCell ⟨ps, 1, none⟩ (.map (some b'))).setCell ⟨ps, 2, none⟩ (.int .i64 ((us.length : Int) + 1))) := ((Chg.refl [ps] w3).setCell (.inl (by simp)) _).setCell (.inl (by simp)) _
        generalize (w3.setCell ⟨ps, 1, none⟩ (.map (some b'))).setCell ⟨ps, 2, none⟩ (.int .i64 ((us.length : Int) + 1)) = w8 at *
        have HX8 := hid (show w8.heap[ps]? = some (.cells #[.pointer (some ⟨pl, 0, none⟩), .map (some b'), .int .i64 ((us.length : Int) + 1)] 94 (0, 0)) from hx8)
        have HC8 := hid hc8
        clear hx8 hc8
        go_wp2_with fail
        go_ret
        have hst := StS.stored (us' := us ++ [layCs (l.map ChD.cg)]) HS1.out HB1A.out HBB1.out HMA.out HC3.out HF3.out HLG3.out (units_one us m _ HS.out.un HOK.out) (by rw [List.length_append]; exact HX8.out) HC8.out
        refine ⟨0, s3, F3, rfl, HCW.out.trans HC8.out (fun q hq => .inl (by rw [List.mem_singleton.1 hq]; simp)), HFW.out, by have h1 := HK3.out; have h2 := HUS.out; omega, fun h => ⟨by decide, (HU3.out h).2⟩, .inr (.inr (.inr (.inl ⟨rfl, HCS.out, HOK.out, b', _, _, _, _, _, _, rfl, by rw [List.length_map, hln], hst, .inl ⟨by have := HFI.out; omega, rfl, rfl⟩⟩)))⟩
      · have HD3 := hid hd3; have HS3 := hid hs3; have HCR3 := hid hcr3
        clear hd3 hs3 hcr3 hfit hus
        go_wp2_with fail
        go_ret
        refine ⟨9, s3, F3, rfl, HCW.out, HFW.out, by have h1 := HK3.out; have h2 := HUS.out; omega, fun h => absurd rfl (HU3.out h).1, .inr (.inr (.inr (.inr ⟨rfl, HCS.out, HOK.out, HD3.out, HS3.out, fun fates => ?_⟩)))⟩
        rcases HCR3.out fates with h | h
        · exact ⟨E, A, U, AT, us, by omega, h, .inl HS.out.un⟩
        · exact ⟨_, _, _, _, _, Nat.le_refl _, h, .inr (units_one us m _ HS.out.un HOK.out)⟩
    · have HOK := hid hok
      dsimp only
      clear hok
      go_wp2_with fail
      go_ret
      exact ⟨1, s, F, rfl, Chg.of_below HB1.out _, fun q hq => .inl hq, by omega, fun h => ⟨by decide, h⟩, .inr (.inl ⟨rfl, HCS.out, HOK.out, rfl, HS.out.below HB1.out⟩)⟩
end Go.Proofs.Ytipkeifpkemcdaa
namespace Go.Proofs.Ytipkeifpkemcdaa
open Go.RowKit Go.Maps Go.ChangeMaps Go.MapKept
set_option linter.unusedVariables false
set_option linter.unusedSimpArgs false
set_option maxRecDepth 1000000
set_option maxHeartbeats 6400000
/-- A unit that is made sure of: how much is used behind it, and the pairs. -/
def StepC (N U : Nat) (m : Pm) (cs : List Cg) (U' : Nat) (m' : Pm) : Prop :=
  (cs = [] ∧ U' = U ∧ m' = m) ∨ (cs ≠ [] ∧ okCs cs = true ∧ m' = m.does cs ∧
    ((unitSize (layCs cs).length ≤ (N - 2) / 2 - U ∧ U' = U + unitSize (layCs cs).length) ∨ ((N - 2) / 2 - U < unitSize (layCs cs).length ∧ ∃ l, IsWhole m' l ∧ okCs l = true ∧ unitSize (layCs l).length ≤ (N - 2) / 2 ∧ U' = unitSize (layCs l).length)))
/-- One that is refused. -/
def StopC (N U : Nat) (m : Pm) (cs : List Cg) (ec : Int) : Prop :=
  (ec = 1 ∧ cs ≠ [] ∧ okCs cs = false) ∨ (ec = 2 ∧ cs ≠ [] ∧ okCs cs = true ∧ (N - 2) / 2 - U < unitSize (layCs cs).length ∧ ∃ l, IsWhole (m.does cs) l ∧ (okCs l = true → (N - 2) / 2 < unitSize (layCs l).length))
inductive Runs (N U : Nat) (m : Pm) : List (List Cg) → Nat → Pm → Prop
  | nil : Runs N U m [] U m
  | snoc {css : List (List Cg)} {cs : List Cg} {U1 U2 : Nat} {m1 m2 : Pm} : Runs N U m css U1 m1 → StepC N U1 m1 cs U2 m2 → Runs N U m (css ++ [cs]) U2 m2
theorem StepC.does {N U U' : Nat} {m m' : Pm} {cs : List Cg} (h : StepC N U m cs U' m') : m' = m.does cs := by
  rcases h with ⟨rfl, -, rfl⟩ | ⟨-, -, h, -⟩
  · rfl
  · exact h
/-- Units in a row, each of them changes in a row. -/
structure UnC (w : World) (P : Nat → Prop) (s : Sl) (sls : List Sl) (ls : List (List ChD)) : Prop where
  rc : RdC w s.a s.n (sls.map Sl.v)
  ln : ls.length = s.n
  at_ : ∀ b off sp, s.a = some ⟨b, off, sp⟩ → P b
  each : ∀ (k : Nat) (sl : Sl) (l : List ChD), sls[k]? = some sl → ls[k]? = some l → ChQ w P sl l
theorem UnC.keep {w w' : World} {P : Nat → Prop} {s : Sl} {sls : List Sl} {ls : List (List ChD)} {G : List Nat} (h : UnC w P s sls ls) (hc : Chg G w w') (hG : ∀ q ∈ G, ¬ P q) : UnC w' P s sls ls :=
  ⟨hc.rdC h.rc (fun b off sp hb hm => hG _ hm (h.at_ b off sp hb)), h.ln, h.at_, fun k sl l h1 h2 => (h.each k sl l h1 h2).keep hc hG⟩
theorem UnC.below {w w' : World} {P : Nat → Prop} {s : Sl} {sls : List Sl} {ls : List (List ChD)} (h : UnC w P s sls ls) (hb : Below w.heap.size w w') : UnC w' P s sls ls := h.keep (Chg.of_below hb []) (fun q hm => by cases hm)
theorem UnC.lens {w : World} {P : Nat → Prop} {s : Sl} {sls : List Sl} {ls : List (List ChD)} (h : UnC w P s sls ls) : sls.length = s.n := by have := h.rc.len; simpa using this
def cgs (ls : List (List ChD)) : List (List Cg) := ls.map fun l => l.map ChD.cg
theorem cgs_take (ls : List (List ChD)) (k : Nat) (l : List ChD) (h : ls[k]? = some l) : cgs (ls.take (k + 1)) = cgs (ls.take k) ++ [l.map ChD.cg] := by
  unfold cgs
  rw [List.take_add_one, h, List.map_append]
  rfl
theorem wk_le {a b k : Nat} (h : a ≤ b + 4000000 * k) : a ≤ b + 4000000 * (k + 1) := Nat.le_trans h (by rw [Nat.mul_succ, ← Nat.add_assoc]; exact Nat.le_add_right _ _)
theorem wk_step {a b c k : Nat} (h : a ≤ b + 4000000 * k) (h2 : c ≤ a + 4000000) : c ≤ b + 4000000 * (k + 1) := by
  rw [Nat.mul_succ, ← Nat.add_assoc]
  exact Nat.le_trans h2 (Nat.add_le_add_right h _)
theorem wk_lt {a b k n : Nat} (h : a ≤ b + 4000000 * k) (hk : k ≤ n) (hb : b + 4000000 * n < 1125899906842624) : a < 1125899906842624 :=
  Nat.lt_of_le_of_lt (Nat.le_trans h (Nat.add_le_add_left (Nat.mul_le_mul_left _ hk) _)) hb
/-- While units are committed. -/
structure CmL (w : World) (p ps pl N E U : Nat) (s : DSt) (F : List Nat) (n : Nat) (m : Pm) (nC : Nat) (ls : List (List ChD)) (y11 : Value) (wr : World) : Prop where
  ex : ∃ (k b E' A' U' : Nat) (AT' : Int) (us' : List (List UInt8)) (s' : DSt) (F' : List Nat) (n' : Nat) (m' : Pm), y11 = .int .i64 (k : Int) ∧ k ≤ nC ∧ Runs N U m (cgs (ls.take k)) U' m' ∧ StS wr p ps pl b N E' A' U' AT' us' s' F' n' m' ∧ Chg (ps :: pl :: F) w wr ∧ Fresh F F' w ∧ E' ≤ E + k ∧ s'.works ≤ s.works + 4000000 * k ∧ n' ≤ n + 1000 * k ∧ (UpD s → UpD s')
/-- What Commit answers. -/
def ComOut (w : World) (p ps pl N E U : Nat) (s : DSt) (F : List Nat) (n : Nat) (m : Pm) (ls : List (List ChD)) (e : Ending) (w' : World) : Prop :=
  ∃ (k : Nat) (ec : Int) (U' : Nat) (m' : Pm) (s' : DSt) (F' : List Nat), e = .returned (.tuple #[.int .i64 (k : Int), .int .i64 ec]) ∧ k ≤ ls.length ∧ Runs N U m (cgs (ls.take k)) U' m' ∧ Chg (ps :: pl :: F) w w' ∧ Fresh F F' w ∧ s'.works ≤ s.works + 4000000 * (k + 1) ∧ (UpD s → ec ≠ 9 ∧ UpD s') ∧
    ((∃ (b E' A' : Nat) (AT' : Int) (us' : List (List UInt8)) (n' : Nat), E' ≤ E + k ∧ n' ≤ n + 1000 * k ∧ StS w' p ps pl b N E' A' U' AT' us' s' F' n' m' ∧ ((ec = 0 ∧ k = ls.length) ∨ ∃ l, ls[k]? = some l ∧ StopC N U' m' (l.map ChD.cg) ec)) ∨
     (ec = 9 ∧ ∃ l, ls[k]? = some l ∧ Dk w' p s' F' ∧ s'.sec.length = N ∧ ∀ fates, ∃ (E' A' U2 : Nat) (AT' : Int) (us' : List (List UInt8)), E' ≤ E + k + 1 ∧ Inv (s'.crash fates) E' A' U2 AT' us' ∧ (unitsM us' = some m' ∨ unitsM us' = some (m'.does (l.map ChD.cg)))))
theorem commitS_any {p ps pl b N E A U : Nat} {AT : Int} {us : List (List UInt8)} {s : DSt} {F : List Nat} {n : Nat} {m : Pm} {w : World} (hS : StS w p ps pl b N E A U AT us s F n m) (aC : Option Addr) (nC cC : Nat) (sls : List Sl) (ls : List (List ChD)) (PQ : Nat → Prop) (hu : UnC w PQ ⟨aC, nC, cC⟩ sls ls)
    (hPQ : ∀ q, PQ q → q < w.heap.size ∧ q ∉ ps :: pl :: F) (hnC : nC ≤ 1000) (hE : E + nC < 4611686018427387904) (hw : s.works + 4000000 * nC < 1125899906842624) (hn : n + 1000 * nC ≤ 35184372088832)
    (hwh : ∀ (k U' : Nat) (m' : Pm) (l : List ChD), Runs N U m (cgs (ls.take k)) U' m' → ls[k]? = some l → (N - 2) / 2 - U' < unitSize (layCs (l.map ChD.cg)).length → ∀ (b' n' : Nat) (P : Nat → Prop) (w' : World), MpR w' b' P n' (m'.does (l.map ChD.cg)) → n' ≤ 70368744177664 → (∀ q, P q → q < w'.heap.size) → Calls Try.prog 57 #[.map (some b')] w' (WholeRes (m'.does (l.map ChD.cg)) w')) :
    Calls Try.prog 21 #[.pointer (some ⟨ps, 0, none⟩), .slice aC nC cC] w (ComOut w p ps pl N E U s F n m ls) := by
  have HS := hid hS; have HU := hid hu; have HPQ := hid hPQ; have HWH := hid hwh
  have hll := hu.ln
  have hls := hu.lens
  dsimp only at hll hls
  clear hS hu hPQ hwh
  go_enter Try.func21, Try.ntmps21
  go_wp2_with fail
  go_loopw [11] (fun y11 wr => CmL w p ps pl N E U s F n m nC ls y11 wr) (fun y11 _ => nC - (intOf y11).toNat)
  case atStart => exact ⟨⟨0, b, E, A, U, AT, us, s, F, n, m, rfl, Nat.zero_le _, Runs.nil, HS.out, Chg.refl _ _, fun q hq => .inl hq, by omega, by omega, by omega, id⟩⟩
  case round =>
    obtain ⟨k, b2, E2, A2, U2, AT2, us2, s2, F2, n2, m2, rfl, hk, hrun, hst, hc, hf, hE2, hw2, hn2, hud⟩ := hrel.ex
    clear hrel
    have HST := hid hst; have HC := hid hc; have HF := hid hf; have HRUN := hid hrun; have HUD := hid hud
    clear hst hc hf hrun hud
    by_cases k1 : k < nC
    · have k1z : (k : Int) < (nC : Int) := by omega
      have hoff : ∀ q ∈ ps :: pl :: F, ¬ PQ q := fun q hq hp => (HPQ.out q hp).2 hq
      have HUK := hid (HU.out.keep HC.out hoff)
      obtain ⟨bU, oU, haU, hcU⟩ := HUK.out.rc.cell k k1
      have e1 : sls[k]? = some (sls[k]'(by omega)) := List.getElem?_eq_getElem _
      have e2 : ls[k]? = some (ls[k]'(by omega)) := List.getElem?_eq_getElem _
      obtain ⟨sl, hsl⟩ : ∃ y, sls[k]'(by omega) = y := ⟨_, rfl⟩
      obtain ⟨l, hl⟩ : ∃ y, ls[k]'(by omega) = y := ⟨_, rfl⟩
      rw [hsl] at e1
      rw [hl] at e2
      clear hsl hl
      have HCH := hid (HUK.out.each k sl l e1 e2)
      have hcell := hcU k sl.v (by rw [List.getElem?_map, e1]; rfl)
      dsimp only at haU
      subst haU
      have hcl : wr.cell? ⟨bU, oU + k, none⟩ = some (.slice sl.a sl.n sl.c) := hcell
      have HE2 := hid e2
      have htk := cgs_take ls k l e2
      have HTK := hid htk
      clear hcell hcU e1 e2 htk hoff
      go_wp2_with fail
      clear hcl
      refine (storeDead_any ps pl p E2 _ _ _ false _ _ _ HST.out.bx HST.out.lg.lg).mono ?_
      rintro e u ⟨rfl, rfl⟩
      dsimp only
      go_wp2_with fail
      refine (one_any HST.out sl.a sl.n sl.c l PQ HCH.out (fun q hq => Nat.lt_of_lt_of_le (HPQ.out q hq).1 HC.out.size) (by omega) (wk_lt hw2 hk hw) (by omega) (fun hfull => HWH.out k U2 m2 l HRUN.out HE2.out hfull)).mono ?_
      intro e w4 hout
      obtain ⟨ec, s4, F4, rfl, hc4, hf4, hk4, hu4, hcs⟩ := hout
      have HC4 := hid (HC.out.trans hc4 (fun q hq => by
        have h0 := HC.out.size
        rcases List.mem_cons.1 hq with h | h
        · exact .inl (by rw [h]; simp)
        · rcases List.mem_cons.1 h with h | h
          · exact .inl (by rw [h]; simp)
          · exact (HF.out q h).imp (fun h => List.mem_cons_of_mem _ (List.mem_cons_of_mem _ h)) id))
      have HF4 := hid (show Fresh F F4 w from fun q hq => by
        rcases hf4 q hq with h | h
        · exact HF.out q h
        · exact .inr (Nat.le_trans HC.out.size h))
      have HU4 := hid hu4
      clear hc4 hf4 hu4
      dsimp only
      rcases hcs with ⟨rfl, hnil, rfl, hst4⟩ | ⟨rfl, hne, hbad, rfl, hst4⟩ | ⟨rfl, hne, hok, hfull, hwl, rfl, hst4⟩ | ⟨rfl, hne, hok, b', E', A', U', n', AT', us', hE', hn', hst4, hkind⟩ | ⟨rfl, hne, hok, hd4, hs4, hcr4⟩
      · have HRR : CmL w p ps pl N E U s F n m nC ls (.int .i64 ((k : Int) + 1)) w4 := ⟨⟨k + 1, b2, E2, A2, U2, AT2, us2, s4, F4, n2, m2, rfl, k1, by rw [HTK.out]; exact HRUN.out.snoc (.inl ⟨hnil, rfl, rfl⟩), hst4, HC4.out, HF4.out, by omega, wk_le hw2, by omega, HUD.out⟩⟩
        clear hst4 hnil
        go_wp2_with fail
        go_roundw
        case rel => first | exact HRR | ((repeat apply Exists.intro); exact HRR) | ((repeat apply Exists.intro); exact ⟨HRR, rfl⟩)
        case measure => (simp [intOf] <;> omega)
      · have HST4 := hid hst4; have HN := hid hne; have HBD := hid hbad
        clear hst4 hne hbad
        go_wp2_with fail
        go_ret2
        exact ⟨k, 1, U2, m2, s4, F4, rfl, by omega, HRUN.out, HC4.out, HF4.out, wk_le hw2, fun h => ⟨by decide, HUD.out h⟩, .inl ⟨b2, E2, A2, AT2, us2, n2, hE2, hn2, HST4.out, .inr ⟨l, HE2.out, .inl ⟨rfl, HN.out, HBD.out⟩⟩⟩⟩
      · have HST4 := hid hst4; have HN := hid hne; have HOK := hid hok; have HFU := hid hfull; have HWL := hid hwl
        clear hst4 hne hok hfull hwl
        go_wp2_with fail
        go_ret2
        exact ⟨k, 2, U2, m2, s4, F4, rfl, by omega, HRUN.out, HC4.out, HF4.out, wk_le hw2, fun h => ⟨by decide, HUD.out h⟩, .inl ⟨b2, E2, A2, AT2, us2, n2, hE2, hn2, HST4.out, .inr ⟨l, HE2.out, .inr ⟨rfl, HN.out, HOK.out, HFU.out, HWL.out⟩⟩⟩⟩
      · have hl10 := (okCs_iff.1 hok).1
        have hstep : StepC N U2 m2 (l.map ChD.cg) U' (m2.does (l.map ChD.cg)) := .inr ⟨hne, hok, rfl, by
          rcases hkind with ⟨h1, h2, -⟩ | ⟨h1, wl, h2, h3, h4, h5, -⟩
          · exact .inl ⟨h1, h2⟩
          · exact .inr ⟨h1, wl, h2, h3, h4, h5⟩⟩
        have HRR : CmL w p ps pl N E U s F n m nC ls (.int .i64 ((k : Int) + 1)) w4 := ⟨⟨k + 1, b', E', A', U', AT', us', s4, F4, n', _, rfl, k1, by rw [HTK.out]; exact HRUN.out.snoc hstep, hst4, HC4.out, HF4.out, by omega, wk_step hw2 hk4, by omega, fun h => (HU4.out (HUD.out h)).2⟩⟩
        clear hst4 hne hok hkind hstep hl10 hE' hn'
        go_wp2_with fail
        go_roundw
        case rel => first | exact HRR | ((repeat apply Exists.intro); exact HRR) | ((repeat apply Exists.intro); exact ⟨HRR, rfl⟩)
        case measure => (simp [intOf] <;> omega)
      · have HD4 := hid hd4; have HS4 := hid hs4; have HCR4 := hid hcr4
        clear hd4 hs4 hcr4 hne hok
        go_wp2_with fail
        go_ret2
        exact ⟨k, 9, U2, m2, s4, F4, rfl, by omega, HRUN.out, HC4.out, HF4.out, wk_step hw2 hk4, fun h => absurd rfl (HU4.out (HUD.out h)).1, .inr ⟨rfl, l, HE2.out, HD4.out, HS4.out, fun fates => by
          obtain ⟨E', A', U', AT', us', g1, g2, g3⟩ := HCR4.out fates
          exact ⟨E', A', U', AT', us', by omega, g2, g3⟩⟩⟩
    · have k1z : ¬ (k : Int) < (nC : Int) := by omega
      obtain rfl : k = nC := by omega
      go_wp2_with fail
      go_ret2
      exact ⟨k, 0, U2, m2, s2, F2, rfl, by omega, HRUN.out, HC.out, HF.out, wk_le hw2, fun h => ⟨by decide, HUD.out h⟩, .inl ⟨b2, E2, A2, AT2, us2, n2, hE2, hn2, HST.out, .inl ⟨rfl, by omega⟩⟩⟩
end Go.Proofs.Ytipkeifpkemcdaa
