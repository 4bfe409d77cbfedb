/- append onto a slice that has no room; the reference's Parse. -/
import Derived.Test.YtbnbofooofedkaaDoorPay6
namespace Go.Proofs.YtbnbofooofedkaaDoor
open Go.RowKit
set_option linter.unusedVariables false
set_option linter.unusedSimpArgs false
set_option maxRecDepth 100000
set_option maxHeartbeats 3200000
theorem grow_on {a b c : World} (h : Below a.heap.size a b) (k : Below b.heap.size b c) : Below a.heap.size a c := h.trans (k.mono h.size)
theorem run_append_empty {P : Program} (w : World) (base : Nat) (t ty e : TypeId) (i : TypeInfo) (z : Value) (size bytes : Nat) (ht : P.underlying t = some (.slice e)) (hi : P.info? e = some i) (hz : i.zero = some z)
  (hsize : i.size = size) (hby : i.bytes = bytes) (hzs : z.cells.size = size) (hsz : 0 < size) (g : Nat) (hg : w.heap[g]? = some (.cells #[] e (0, 0))) (hgb : base ≤ g)
  (a : Option Addr) (m c : Nat) (news : List Value) (hx : RdC w a (m * size) news) (h1 : ∀ u ∈ news, u.oneCell' = true) (hc : a = none → c = 0) (h63 : m ≤ maxLen) (hbytes : m * bytes ≤ 140737488355328) :
  ∃ a' c' w', (Builtin.append_ #[t, t] ty #[.slice (some ⟨g, 0, none⟩) 0 0, .slice a m c]).run P w = .ok (.slice a' m c') w' ∧ w'.ownsRow base e size (.slice a' m c') m news ∧ Below w.heap.size w w' := by
 have hgl := block_lt hg
 have hown : w.ownsRow base e size (.slice (some ⟨g, 0, none⟩) 0 0) 0 [] := ⟨by simp, .inr ⟨g, 0, #[], rfl, hgb, hg, Nat.le_refl _, by unfold maxLen; omega, by simp, by simp⟩⟩
 have hnil : m = 0 → news = [] := fun h => List.eq_nil_of_length_eq_zero (by rw [hx.len, h]; simp)
 cases a with
 | none =>
  obtain rfl := hc rfl
  have hm : m = 0 := by
   rcases Nat.eq_zero_or_pos m with h | h
   ·exact h
   ·obtain ⟨b, off, ha, _⟩ := hx.cell 0 (Nat.mul_pos h hsz); cases ha
  subst hm
  obtain rfl := hnil rfl
  exact ⟨_, _, w, run_append_owned_none (P := P) (w := w) base t ty e i size ht hi _ 0 [] hown, hown, Below.refl _ _⟩
 | some a =>
  rcases Nat.eq_zero_or_pos m with h | h
  ·subst h
   obtain rfl := hnil rfl
   have hr := run_append_room (P := P) w t ty e i ht hi g 0 0 #[] hg a 0 c [] (by simp) (by simp) (by simp) (Nat.le_refl _) (by simp)
   have hch : Chg [] w (w.setRow g (((#[] : Array Value).toList.take (0 * i.size) ++ [] ++ (#[] : Array Value).toList.drop (0 * i.size + ([] : List Value).length)).toArray)) := by
    refine ⟨rfl, rfl, rfl, by simp [World.setRow], fun k hk _ => ?_⟩
    by_cases hkg : k = g
    ·subst hkg
     simp [World.setRow, Array.getElem?_modify, hg]
    ·simp [World.setRow, Array.getElem?_modify, Ne.symm hkg]
   exact ⟨_, _, _, hr, hch.owns hown (by simp), hch.below (by simp) (Nat.le_refl _)⟩
  ·obtain ⟨v', w', hr, h2, h3⟩ := run_append_arg_grows (P := P) w t ty e i z size bytes ht hi hz hsize hby hzs hsz ⟨g, 0, none⟩ 0 0 [] (by simp) (by simp) a m c news hx.len hx.news (by omega) (by omega) (by rw [Nat.zero_add]; exact hbytes)
   rw [Nat.zero_add, List.nil_append] at h2
   obtain ⟨a', c', rfl⟩ : ∃ a' c', v' = .slice a' m c' := by
    rcases h2.2 with ⟨hv, h0⟩ | ⟨g', cap, cur, hv, _⟩
    ·exact ⟨none, 0, by rw [hv, h0]⟩
    ·exact ⟨_, _, hv⟩
   exact ⟨a', c', w', hr, ownsRow_base h2 (fun k hk => by have := (h2.lt k hk).1; omega), (Below.refl _ _).grown h3 (Nat.le_refl _) (fun k hk => by cases hk)⟩
theorem wp_append_empty {P : Program} {w : World} {o : Oper} {a : Act} {K : Act → World → Prop} {Q : Exit → Act → World → Prop} (s x : Operand) (t : TypeId)
  (ho : o.op = .call { callee := .builtin .append, args := #[s, x], argTypes := #[t, t] })
  (base : Nat) (e : TypeId) (i : TypeInfo) (z : Value) (size bytes : Nat) (ht : P.underlying t = some (.slice e)) (hi : P.info? e = some i) (hz : i.zero = some z)
  (hsize : i.size = size) (hby : i.bytes = bytes) (hzs : z.cells.size = size) (hsz : 0 < size) (g : Nat) (hs : a.eval s = .slice (some ⟨g, 0, none⟩) 0 0) (hg : w.heap[g]? = some (.cells #[] e (0, 0))) (hgb : base ≤ g)
  (ad : Option Addr) (m c : Nat) (news : List Value) (hx : a.eval x = .slice ad m c) (hr : RdC w ad (m * size) news) (h1 : ∀ u ∈ news, u.oneCell' = true) (hc : ad = none → c = 0) (h63 : m ≤ maxLen) (hbytes : m * bytes ≤ 140737488355328)
  (h : ∀ a' c' w', w'.ownsRow base e size (.slice a' m c') m news → Below w.heap.size w w' → K (a.put o.dst (.slice a' m c')) w') : o.wp P a w K Q := by
 obtain ⟨a', c', w', hrun, h2, h3⟩ := run_append_empty (P := P) w base t o.type e i z size bytes ht hi hz hsize hby hzs hsz g hg hgb ad m c news hr h1 hc h63 hbytes
 unfold Oper.wp execOp
 simp only [ho, resolve, invoke, builtin, Sem.run_bind, Sem.run_pure, Result.andThen_ok, List.map_toArray, List.map_cons, List.map_nil, hs, hx, hrun]
 exact h a' c' w' h2 h3
end Go.Proofs.YtbnbofooofedkaaDoor
