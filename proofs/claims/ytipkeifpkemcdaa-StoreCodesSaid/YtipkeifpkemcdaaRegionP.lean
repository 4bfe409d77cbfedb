/- A plain region, operation by operation: each by itself, given what the earlier ones have left; no branching over the ways through it. -/
import Derived.Test.YtipkeifpkemcdaaRegion
namespace Go.Proofs.Ytipkeifpkemcdaa
open Go.RowKit
set_option linter.unusedVariables false
set_option linter.unusedSimpArgs false
section
variable {P : Program} {ops : Array Oper} {Q : Exit → Act → World → Prop}
structure SeenP (ops : Array Oper) {R : World → World → Prop} (Φ : List (St R)) (a : Act) (i : Nat) (A : Act) (w : World) : Prop where
  size : A.tmps.size = a.tmps.size
  df : A.defers = a.defers
  rest : ∀ k, (∀ j : Nat, j < i → (ops[j]?).bind (·.dst) ≠ some k) → A.tmps[k]? = a.tmps[k]?
  did : ∀ j : Nat, j < i → (Φ.getD j St.any).p (atDst A ((ops[j]?).bind (·.dst))) w
/-- Each slot is one operation's, and there. -/
def distP (ops : Array Oper) (m n : Nat) : Bool :=
  decide (m ≤ ops.size) && (List.range m).all fun i => match (ops[i]?).bind (·.dst) with
    | none => true
    | some d => decide (d < n) && (List.range m).all fun j => j == i || (ops[j]?).bind (·.dst) != some d
theorem distP_lt {m n i d : Nat} (h : distP ops m n = true) (hi : i < m) (hd : (ops[i]?).bind (·.dst) = some d) : d < n := by
  simp only [distP, Bool.and_eq_true] at h
  have := List.all_eq_true.1 h.2 i (List.mem_range.2 hi)
  rw [hd] at this
  simp only [Bool.and_eq_true, decide_eq_true_eq] at this
  exact this.1
theorem distP_ne {m n i j d : Nat} (h : distP ops m n = true) (hi : i < m) (hj : j < m) (hd : (ops[i]?).bind (·.dst) = some d) (hne : j ≠ i) : (ops[j]?).bind (·.dst) ≠ some d := by
  simp only [distP, Bool.and_eq_true] at h
  have := List.all_eq_true.1 h.2 i (List.mem_range.2 hi)
  rw [hd] at this
  simp only [Bool.and_eq_true] at this
  have h2 := List.all_eq_true.1 this.2 j (List.mem_range.2 hj)
  intro he
  rw [he] at h2
  simp [hne] at h2
theorem wpList_each {m : Nat} {a : Act} {w : World} (R : World → World → Prop) (Φ : List (St R)) (hB : distP ops m a.tmps.size = true)
    (hRt : ∀ a b c, R a b → R b c → R a c) (hR0 : R w w)
    (hop : ∀ i o, i < m → ops[i]? = some o → ∀ w', R w w' → ∀ A, SeenP ops Φ a i A w' → does P ops (Φ.getD i St.any) o w' A)
    (hend : ∀ w', R w w' → upon ops Φ w' (List.range m) a (fun A => wpList P ops Q (ops.toList.drop m) A w')) : wpList P ops Q ops.toList a w := by
  have hms : m ≤ ops.size := by
    have h := hB
    simp only [distP, Bool.and_eq_true, decide_eq_true_eq] at h
    exact h.1
  have key : ∀ (n i : Nat) (b : Act) (w' : World), m - i = n → i ≤ m → R w w' → SeenP ops Φ a i b w' → wpList P ops Q (ops.toList.drop i) b w' := by
    intro n
    induction n with
    | zero =>
      intro i b w' hn hi hr hs
      obtain rfl : i = m := by omega
      have h1 := upon_inst (t := b) (List.range i) a (fun j hj => hs.did j (List.mem_range.1 hj)) (hend w' hr)
      have he : putAll ops b (List.range i) a = b := by
        have e1 : (putAll ops b (List.range i) a).tmps = b.tmps := by
          refine Array.ext (by rw [putAll_size, hs.size]) fun k hk hk' => ?_
          have : (putAll ops b (List.range i) a).tmps[k]? = b.tmps[k]? := by
            by_cases hx : ∃ j : Nat, j < i ∧ (ops[j]?).bind (·.dst) = some k
            · obtain ⟨j, hjm, hj⟩ := hx
              exact putAll_eq _ _ hs.size.symm hk' (.inl ⟨j, List.mem_range.2 hjm, hj⟩)
            · have hx' : ∀ j : Nat, j < i → (ops[j]?).bind (·.dst) ≠ some k := fun j hjm hj => hx ⟨j, hjm, hj⟩
              rw [putAll_ne _ _ (fun j hj => hx' j (List.mem_range.1 hj)), hs.rest k hx']
          rw [Array.getElem?_eq_getElem hk, Array.getElem?_eq_getElem hk'] at this
          exact Option.some.inj this
        have e2 : (putAll ops b (List.range i) a).defers = b.defers := by rw [putAll_defers, hs.df]
        cases hb : putAll ops b (List.range i) a
        cases b
        rw [hb] at e1 e2
        cases e1; cases e2; rfl
      rw [he] at h1
      exact h1
    | succ n ih =>
      intro i b w' hn hi hr hs
      have him : i < m := by omega
      have hio : i < ops.size := by omega
      have ho : ops[i]? = some ops[i] := Array.getElem?_eq_getElem hio
      generalize ops[i] = o at ho
      rw [drop_cons ho]
      refine wpList_step fun K hK => ?_
      refine hop i o him ho w' hr b hs K Q fun u w'' hr2 hp => hK _ _ ?_
      refine ih (i + 1) _ _ (by omega) him (hRt _ _ _ hr hr2) ⟨by rw [put_size, hs.size], by rw [put_defers, hs.df], fun k hk => ?_, fun j hj => ?_⟩
      · rw [← hs.rest k (fun j hj => hk j (by omega))]
        cases hd : o.dst with
        | none => rfl
        | some d =>
          have := hk i (by omega)
          rw [ho] at this
          simp only [Option.bind_some, hd] at this
          simp only [Act.put]; rw [Array.getElem?_setIfInBounds_ne (by simpa using this)]
      · by_cases hji : j = i
        · subst hji
          rw [ho]
          show (Φ.getD j St.any).p (atDst (b.put o.dst u) o.dst) w''
          cases hd : o.dst with
          | none => rw [hd] at hp; exact hp
          | some d =>
            rw [hd] at hp
            have hdl : d < a.tmps.size := distP_lt hB him (by rw [ho]; exact hd)
            rw [atDst_put (fun d' hd' => by cases hd'; rw [hs.size]; exact hdl) (by simp)]
            exact hp
        · have := (Φ.getD j St.any).st _ _ _ (hs.did j (by omega)) hr2
          rwa [atDst_ne]
          intro d hd he
          exact distP_ne hB him (by omega : j < m) (by rw [ho]; exact hd) hji he
  have h0 := key m 0 a w (by omega) (Nat.zero_le _) hR0 ⟨rfl, rfl, fun _ _ => rfl, fun j hj => absurd hj (Nat.not_lt_zero _)⟩
  exact h0
/-- The rule, operation by operation. -/
theorem wp_region_eachP {id : Nat} {a : Act} {w : World} {l : List Oper} (m : Nat) (Φ : List (St Grow)) (hB : distP l.toArray m a.tmps.size = true)
    (hop : each (l.take m) 0 (fun i o => ∀ w', Grow w w' → ∀ A, SeenP l.toArray Φ a i A w' → does P l.toArray (Φ.getD i St.any) o w' A))
    (hend : ∀ w', Grow w w' → upon l.toArray Φ w' (List.range m) a (fun A => wpList P l.toArray Q (l.drop m) A w')) : (Code.region id l.toArray false).wp P Q a w :=
  wp_region_list (wpList_each Grow Φ hB (fun _ _ _ => Grow.trans) (Grow.refl _)
    (fun i o hi ho => by have := each_get (l.take m) 0 hop i o (by rw [List.getElem?_take, if_pos hi]; simpa using ho); rwa [Nat.zero_add] at this) hend)
variable {m : Nat} {R : World → World → Prop} {Φ : List (St R)} {a A : Act} {i : Nat} {w : World} {S : St R}
theorem SeenP.de {u : Value} (h : SeenP ops Φ a i A w) (j d : Nat) (hlt0 : Nat.ble (d + 1) a.tmps.size = true := by kernel_rfl) (hj : j < i := by decide) (hd : (ops[j]?).bind (·.dst) = some d := by kernel_rfl) (hS : Φ.getD j St.any = .eq u := by exact rfl) : A.tmps[d]? = some u := by
  have hlt : d < a.tmps.size := Nat.le_of_ble_eq_true hlt0
  have h1 := h.did j hj
  rw [hd, hS] at h1
  have hl : d < A.tmps.size := by rw [h.size]; exact hlt
  have h2 : atDst A (some d) = u := h1
  simp only [atDst] at h2
  rw [Array.getElem?_eq_getElem hl, ← h2, Array.getD_eq_getD_getElem?, Array.getElem?_eq_getElem hl]
  rfl
theorem SeenP.dp (h : SeenP ops Φ a i A w) (j d : Nat) (hlt0 : Nat.ble (d + 1) a.tmps.size = true := by kernel_rfl) (hj : j < i := by decide) (hd : (ops[j]?).bind (·.dst) = some d := by kernel_rfl) (hS : Φ.getD j St.any = S := by exact rfl) : ∃ v, A.tmps[d]? = some v ∧ S.p v w := by
  have hlt : d < a.tmps.size := Nat.le_of_ble_eq_true hlt0
  have h1 := h.did j hj
  rw [hd, hS] at h1
  have hl : d < A.tmps.size := by rw [h.size]; exact hlt
  refine ⟨A.tmps[d], Array.getElem?_eq_getElem hl, ?_⟩
  simpa [atDst, hl] using h1
theorem SeenP.sl (h : SeenP ops Φ a i A w) (k : Nat) (v : Value) (hk : ((List.range i).all fun j => (ops[j]?).bind (·.dst) != some k) = true := by kernel_rfl) (hv : a.tmps[k]? = some v := by exact rfl) : A.tmps[k]? = some v := by
  rw [h.rest k fun j hj => by simpa using List.all_eq_true.1 hk j (List.mem_range.2 hj)]; exact hv
end
theorem if_t {b : Bool} {x y : Value} (h : b = true) : (if b = true then x else y) = x := by rw [h]; rfl
theorem if_f {b : Bool} {x y : Value} (h : b = false) : (if b = true then x else y) = y := by rw [h]; rfl
/-- As upon_v, but nothing is kept of what the operation left. -/
theorem upon_x {ops : Array Oper} {R : World → World → Prop} {Φ : List (St R)} {a : Act} {w : World} {G : Act → Prop} {j : Nat} {js : List Nat} (x : Option Tmp) (h : ∀ v, upon ops Φ w js (a.put x v) G) (hx : (ops[j]?).bind (·.dst) = x := by kernel_rfl) : upon ops Φ w (j :: js) a G := upon_v (S := Φ.getD j St.any) x (fun v _ => h v) hx rfl
end Go.Proofs.Ytipkeifpkemcdaa
