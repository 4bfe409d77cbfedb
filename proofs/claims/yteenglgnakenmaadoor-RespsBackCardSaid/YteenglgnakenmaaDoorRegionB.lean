/- The rule for regions, where behind a barrier some operations stand in an open order still. -/
import Derived.Test.YteenglgnakenmaaDoorRegion
namespace Go.Proofs.YteenglgnakenmaaDoor
open Go.RowKit
set_option linter.unusedVariables false
set_option linter.unusedSimpArgs false

/-- The last statement of a sequence: what follows, as a variable. -/
theorem wp_last' {P : Program} {s : Code} {Q : Exit → Act → World → Prop} {a : Act} {w : World} (h : ∀ K : Act → World → Prop, (∀ a' w', Q .normal a' w' → K a' w') → s.wp P (Exit.then K Q) a w) : s.wp P Q a w := by
  refine wp_mono (h (Q .normal) (fun _ _ q => q)) ?_
  intro e a' w' hq
  cases e <;> exact hq
section
variable {P : Program} {md : Region.Mode} {ops : Array Oper} {Q : Exit → Act → World → Prop}
/-- From the m-th on each operation waits for the first m. -/
def barB (md : Region.Mode) (ops : Array Oper) (m : Nat) : Bool :=
  (List.range ops.size).all fun i => decide (i < m) || match ops[i]? with
    | none => true
    | some o => (List.range m).all fun j => reach md ops 10 o j
theorem barB_all {m i : Nat} {o : Oper} (h : barB md ops m = true) (hi : m ≤ i) (ho : ops[i]? = some o) {listed : Array Bool} (hcl : ∀ (k : Nat) o', ops[k]? = some o' → listed.getD k false = true → ∀ j ∈ waits md o', listed.getD j false = true)
    (hw : ∀ j ∈ waits md o, listed.getD j false = true) : ∀ j, j < m → listed.getD j false = true := by
  have h1 := List.all_eq_true.1 h i (List.mem_range.2 (Array.getElem?_eq_some_iff.1 ho).1)
  simp only [ho, Bool.or_eq_true, decide_eq_true_eq] at h1
  have h2 := h1.resolve_left (by omega)
  intro j hj
  exact reach_listed hcl 10 o j hw (List.all_eq_true.1 h2 j (List.mem_range.2 hj))
theorem wp_region_bar {id m : Nat} {a : Act} {w : World} (R : World → World → Prop) (Φ : List (St R)) (X : Array Bool → World → Prop) (hm : P.follows .mixedOrders = true)
    (hB : relB .any ops m a.tmps.size = true) (hC : barB .any ops m = true) (hs : Region.noSelect ops = true)
    (hRt : ∀ a b c, R a b → R b c → R a c) (hRd : R w { w with drawn := w.drawn + 1 }) (hX0 : X (Array.replicate ops.size false) { w with drawn := w.drawn + 1 })
    (hop : ∀ i o, i < m → ops[i]? = some o → ∀ w', R w w' → ∀ listed, Up .any ops listed i o → X listed w' → ∀ A, Seen ops m Φ a o A w' → doesY P ops (Φ.getD i St.any) (X (listed.setIfInBounds i true)) o w' A)
    (hend : ∀ w', R w w' → ∀ listed : Array Bool, listed.size = ops.size → (∀ j, j < m → listed.getD j false = true) → (∀ j, m ≤ j → listed.getD j false = false) → X listed w' → upon ops Φ w' (List.range m) a (fun A => wpAny P .any ops Q (ops.size - m) listed A w')) : (Code.region id ops true).wp P Q a w := by
  have hmn := relB_le hB
  have hall : ∀ (listed : Array Bool) b w', listed.size = ops.size → (∀ j, j < m → j ∉ Region.ready .any ops listed) → OnWay ops m Φ a w listed b w' → ∀ j, j < m → listed.getD j false = true := by
    intro listed b w' hsz hr h j
    induction j using Nat.strongRecOn with
    | _ j ih =>
      intro hj
      cases hl : listed.getD j false with
      | true => rfl
      | false =>
        exfalso
        have hjo : j < ops.size := by omega
        refine hr j hj (mem_ready.2 ⟨?_, ops[j], Array.getElem?_eq_getElem hjo, fun e he hb => ?_⟩)
        · have hj' : j < listed.size := by omega
          simp [hj'] at hl ⊢; exact hl
        · have hlt := relB_back hB hj (Array.getElem?_eq_getElem hjo) e.on (List.mem_map.2 ⟨e, List.mem_filter.2 ⟨by simpa using he, hb⟩, rfl⟩)
          exact ih _ hlt (by omega)
  have hturn : ∀ (listed : Array Bool) b w', listed.size = ops.size → (∀ j, j < m → listed.getD j false = true) → OnWay ops m Φ a w listed b w' → X listed w' → wpAny P .any ops Q (ops.size - m) listed b w' := by
    intro listed b w' hsz hl h hx
    have h1 := upon_inst (t := b) (List.range m) a (fun j hj => h.did j (List.mem_range.1 hj) (hl j (List.mem_range.1 hj))) (hend w' h.rel listed hsz hl h.un hx)
    have he : putAll ops b (List.range m) a = b := by
      have e1 : (putAll ops b (List.range m) a).tmps = b.tmps := by
        refine Array.ext (by rw [putAll_size, h.size]) fun k hk hk' => ?_
        have : (putAll ops b (List.range m) a).tmps[k]? = b.tmps[k]? := by
          by_cases hx : ∃ j : Nat, j < m ∧ (ops[j]?).bind (·.dst) = some k
          · obtain ⟨j, hjm, hj⟩ := hx
            exact putAll_eq _ _ h.size.symm hk' (.inl ⟨j, List.mem_range.2 hjm, hj⟩)
          · have hx' : ∀ j : Nat, j < m → (ops[j]?).bind (·.dst) ≠ some k := fun j hjm hj => hx ⟨j, hjm, hj⟩
            rw [putAll_ne _ _ (fun j hj => hx' j (List.mem_range.1 hj)), h.rest k hx']
        rw [Array.getElem?_eq_getElem hk, Array.getElem?_eq_getElem hk'] at this
        exact Option.some.inj this
      have e2 : (putAll ops b (List.range m) a).defers = b.defers := by rw [putAll_defers, h.df]
      cases hb : putAll ops b (List.range m) a
      cases b
      rw [hb] at e1 e2
      cases e1; cases e2; rfl
    rw [he] at h1
    exact h1
  refine wp_region_any hm (wpAny_inv (fun listed b w' => (OnWay ops m Φ a w listed b w' ∧ X listed w') ∨ ∃ fuel, wpAny P .any ops Q fuel listed b w') ?_ ?_ ops.size _ a _ (by simp) (by simp) (.inl ⟨⟨hRd, rfl, rfl, fun _ _ => rfl, fun j _ hj => ?_, fun j _ => ?_, fun k o' _ hk => ?_⟩, hX0⟩))
  · intro listed b w' i hsz hi h
    obtain ⟨hun, o, ho, hall'⟩ := mem_ready.1 hi
    have hio := (Array.getElem?_eq_some_iff.1 ho).1
    have hun' : listed.getD i false = false := by
      have : i < listed.size := by omega
      simp [this] at hun ⊢; exact hun
    have hw : ∀ j ∈ waits .any o, listed.getD j false = true := by
      intro j hj
      obtain ⟨e, he, rfl⟩ := List.mem_map.1 hj
      obtain ⟨he1, he2⟩ := List.mem_filter.1 he
      exact hall' e (by simpa using he1) (by simpa using he2)
    rcases h with ⟨h, hX⟩ | ⟨fuel, hf⟩
    case inr =>
      cases fuel with
      | zero => rw [hf.1] at hi; cases hi
      | succ f => exact wpOp_mono (fun _ _ h => .inr ⟨f, h⟩) (hf.2 i hi)
    rcases Nat.lt_or_ge i m with him | him
    case inr =>
      have hf := hturn listed b w' hsz (barB_all hC him ho h.cl hw) h hX
      obtain ⟨f, hff⟩ : ∃ f, ops.size - m = f + 1 := ⟨ops.size - m - 1, by omega⟩
      rw [hff] at hf
      exact wpOp_mono (fun _ _ h => .inr ⟨f, h⟩) (hf.2 i hi)
    refine wpOp_mono (K := fun b' w'' => OnWay ops m Φ a w (listed.setIfInBounds i true) b' w'' ∧ X (listed.setIfInBounds i true) w'') (fun _ _ h => .inl h) ?_
    have hnotyet : ∀ k o', ops[k]? = some o' → i ∈ waits .any o' → listed.getD k false = true → False := fun k o' hk hik hlk => by
      have := h.cl k o' hk hlk i hik
      rw [hun'] at this; cases this
    have hbk := relB_back hB him ho
    have hup : Up .any ops listed i o := ⟨hsz, hio, hw, hun', fun k o' hk hik => by
      by_cases hkm : k < m ∨ m ≤ k
      · cases hlk : listed.getD k false with
        | false => rfl
        | true =>
          exfalso
          exact hnotyet k o' hk hik hlk
      · omega⟩
    have hdo := hop i o him ho w' h.rel listed hup hX b ⟨h.size, h.rest, fun j hj => h.did j (by have := hbk j hj; omega) (hw j hj), fun j hj d hd => by
      cases hoj : ops[j]? with
      | none => rw [hoj] at hd; cases hd
      | some oj => rw [hoj] at hd; exact h.size ▸ relB_dst hB (by have := hbk j hj; omega) hoj hd⟩
    have h2 := hdo (fun a' w'' => ∃ u, a' = b.put o.dst u ∧ R w' w'' ∧ (Φ.getD i St.any).p (atDst (b.put o.dst u) o.dst) w'' ∧ X (listed.setIfInBounds i true) w'') (fun _ _ _ => False) (fun u w'' h3 h5 h4 => ⟨u, rfl, h3, ⟨by
      cases hd : o.dst with
      | none => rw [hd] at h4; exact h4
      | some d => rw [hd] at h4; rw [atDst_put (fun d' hd' => by cases hd'; exact h.size ▸ relB_dst hB him ho hd) (by simp)]; exact h4, h5⟩⟩)
    unfold wpOp
    simp only [ho]
    split
    · rename_i hwt
      rw [if_pos hwt] at h2
      refine .inl ?_
      unfold Oper.wp at *
      generalize (execOp b.eval o).run P w' = r at *
      cases r with
      | ok n w1 =>
        cases n <;> simp only [Oper.upon] at h2 ⊢
        case value u => obtain ⟨u', e, h3, h4, h5⟩ := h2; rw [e]; exact ⟨h.next hRt hB him ho h.size hw h3 h4, h5⟩
        case skip => obtain ⟨u', e, h3, h4, h5⟩ := h2; rw [e]; exact ⟨h.next hRt hB him ho h.size hw h3 h4, h5⟩
        case defer d =>
          obtain ⟨u', e, _⟩ := h2
          have := congrArg Act.defers e
          rw [put_defers, put_defers] at this
          exact absurd (congrArg List.length this) (by simp)
        case enter f args =>
          refine Calls.mono h2 fun e w'' he => ?_
          cases e with
          | returned u => obtain ⟨u', e, h3, h4, h5⟩ := he; show OnWay ops m Φ a w (listed.setIfInBounds i true) (b.put o.dst u) w'' ∧ X (listed.setIfInBounds i true) w''; rw [e]; exact ⟨h.next hRt hB him ho h.size hw h3 h4, h5⟩
          | panicked c => exact he.elim
          | outgrown => obtain ⟨_, _, hf⟩ := he; exact hf.elim
        case row row args => exact Rows.mono h2 fun u w'' he => by obtain ⟨u', e, h3, h4, h5⟩ := he; rw [e]; exact ⟨h.next hRt hB him ho h.size hw h3 h4, h5⟩
      | halt x w1 => cases x <;> simp only [Oper.upon] at h2 ⊢
    · rename_i hwt
      rw [if_neg hwt] at h2
      obtain ⟨u', e, h3, h4, h5⟩ := h2
      rw [e]
      exact ⟨h.next hRt hB him ho h.size hw h3 h4, h5⟩
  · intro listed b w' hsz hr h
    have hfin : ∀ fuel, wpAny P .any ops Q fuel listed b w' → Q .normal b w' := fun fuel hf => by
      cases fuel with
      | zero => exact hf.2
      | succ f => exact hf.1 hr
    rcases h with ⟨h, hX⟩ | ⟨fuel, hf⟩
    · exact hfin _ (hturn listed b w' hsz (hall listed b w' hsz (fun j _ => by rw [hr]; simp) h) h hX)
    · exact hfin _ hf
  · exfalso
    simp only [Array.getD_eq_getD_getElem?] at hj
    rcases Nat.lt_or_ge j ops.size with h' | h'
    · simp [h'] at hj
    · simp [Nat.not_lt.2 h'] at hj
  · simp only [Array.getD_eq_getD_getElem?]
    rcases Nat.lt_or_ge j ops.size with h' | h'
    · simp [h']
    · simp [Nat.not_lt.2 h']
  · exfalso
    simp only [Array.getD_eq_getD_getElem?] at hk
    rcases Nat.lt_or_ge k ops.size with h' | h'
    · simp [h'] at hk
    · simp [Nat.not_lt.2 h'] at hk
/-- The flags behind the barrier. -/
theorem listed_bar {listed : Array Bool} {n m : Nat} (hs : listed.size = n) (h1 : ∀ j, j < m → listed.getD j false = true) (h2 : ∀ j, m ≤ j → listed.getD j false = false) (hm : m ≤ n) : listed = (List.replicate m true ++ List.replicate (n - m) false).toArray := by
  refine Array.ext (by simp [hs]; omega) fun k hk hk' => ?_
  have e : ∀ (x : Bool), listed.getD k false = x → listed[k] = x := fun x hx => by
    rw [Array.getD_eq_getD_getElem?, Array.getElem?_eq_getElem hk] at hx; exact hx
  rcases Nat.lt_or_ge k m with h | h
  · refine (e true (h1 k h)).trans ?_
    rw [List.getElem_toArray, List.getElem_append_left (by simpa using h)]; simp
  · refine (e false (h2 k h)).trans ?_
    rw [List.getElem_toArray, List.getElem_append_right (by simpa using h)]; simp
theorem wp_region_eachA {id : Nat} {a : Act} {w : World} {l : List Oper} (m : Nat) (fl : Array Bool) (Φ : List (St Grow)) (hm : P.follows .mixedOrders = true)
    (hB : relB .any l.toArray m a.tmps.size = true) (hC : barB .any l.toArray m = true) (hs : Region.noSelect l.toArray = true) (hfl : (List.replicate m true ++ List.replicate (l.toArray.size - m) false).toArray = fl)
    (hop : each (l.take m) 0 (fun i o => ∀ w', Grow w w' → ∀ A, Seen l.toArray m Φ a o A w' → does P l.toArray (Φ.getD i St.any) o w' A))
    (hend : ∀ w', Grow w w' → upon l.toArray Φ w' (List.range m) a (fun A => wpAny P .any l.toArray Q (l.toArray.size - m) fl A w')) : (Code.region id l.toArray true).wp P Q a w := by
  refine wp_region_bar Grow Φ (fun _ _ => True) hm hB hC hs (fun _ _ _ => Grow.trans) (Below.refl _ w).drew trivial ?_ ?_
  · intro i o hi ho w' hR listed _ _ A hA K Q' hK
    have h1 := each_get (l.take m) 0 hop i o (by rw [List.getElem?_take, if_pos hi]; simpa using ho)
    rw [Nat.zero_add] at h1
    exact h1 w' hR A hA K Q' (fun u w' h1 h2 => hK u w' h1 trivial h2)
  · intro w' hR listed hsz h1 h2 _
    have := listed_bar hsz h1 h2 (relB_le hB)
    rw [this, hfl]
    exact hend w' hR

/-- The same, begun where some operations are done already. -/
def barL (md : Region.Mode) (ops : Array Oper) (l0 : Array Bool) (m : Nat) : Bool :=
  (List.range ops.size).all fun i => decide (i < m) || match ops[i]? with
    | none => true
    | some o => (List.range m).all fun j => l0.getD j false || reach md ops 10 o j
theorem barL_all {m i : Nat} {o : Oper} {l0 : Array Bool} (h : barL md ops l0 m = true) (hi : m ≤ i) (ho : ops[i]? = some o) {listed : Array Bool} (hcl : ∀ (k : Nat) o', ops[k]? = some o' → listed.getD k false = true → ∀ j ∈ waits md o', listed.getD j false = true)
    (hw : ∀ j ∈ waits md o, listed.getD j false = true) (hl : ∀ j : Nat, l0.getD j false = true → listed.getD j false = true) : ∀ j, j < m → listed.getD j false = true := by
  have h1 := List.all_eq_true.1 h i (List.mem_range.2 (Array.getElem?_eq_some_iff.1 ho).1)
  simp only [ho, Bool.or_eq_true, decide_eq_true_eq] at h1
  have h2 := h1.resolve_left (by omega)
  intro j hj
  have h3 := List.all_eq_true.1 h2 j (List.mem_range.2 hj)
  rw [Bool.or_eq_true] at h3
  rcases h3 with h3 | h3
  · exact hl j h3
  · exact reach_listed hcl 10 o j hw h3
theorem wpAny_bar {m fuel : Nat} {a : Act} {w0 w : World} {l0 : Array Bool} (R : World → World → Prop) (Φ : List (St R)) (X : Array Bool → World → Prop)
    (hB : relB .any ops m a.tmps.size = true) (hC : barL .any ops l0 m = true) (hs : Region.noSelect ops = true)
    (hRt : ∀ a b c, R a b → R b c → R a c) (hR0 : R w0 w) (hX0 : X l0 w) (hsz0 : l0.size = ops.size) (hfu : l0.toList.count false ≤ fuel)
    (hdid : ∀ j : Nat, j < m → l0.getD j false = true → (Φ.getD j St.any).p (atDst a ((ops[j]?).bind (·.dst))) w) (hun0 : ∀ j : Nat, m ≤ j → l0.getD j false = false) (hcl0 : ∀ (k : Nat) o', ops[k]? = some o' → l0.getD k false = true → ∀ j ∈ waits .any o', l0.getD j false = true)
    (hop : ∀ i o, i < m → ops[i]? = some o → ∀ w', R w0 w' → ∀ listed, Up .any ops listed i o → X listed w' → ∀ A, Seen ops m Φ a o A w' → doesY P ops (Φ.getD i St.any) (X (listed.setIfInBounds i true)) o w' A)
    (hend : ∀ w', R w0 w' → ∀ listed : Array Bool, listed.size = ops.size → (∀ j, j < m → listed.getD j false = true) → (∀ j, m ≤ j → listed.getD j false = false) → X listed w' → upon ops Φ w' (List.range m) a (fun A => wpAny P .any ops Q (ops.size - m) listed A w')) : wpAny P .any ops Q fuel l0 a w := by
  have hmn := relB_le hB
  have hall : ∀ (listed : Array Bool) b w', listed.size = ops.size → (∀ j, j < m → j ∉ Region.ready .any ops listed) → OnWay ops m Φ a w0 listed b w' → ∀ j, j < m → listed.getD j false = true := by
    intro listed b w' hsz hr h j
    induction j using Nat.strongRecOn with
    | _ j ih =>
      intro hj
      cases hl : listed.getD j false with
      | true => rfl
      | false =>
        exfalso
        have hjo : j < ops.size := by omega
        refine hr j hj (mem_ready.2 ⟨?_, ops[j], Array.getElem?_eq_getElem hjo, fun e he hb => ?_⟩)
        · have hj' : j < listed.size := by omega
          simp [hj'] at hl ⊢; exact hl
        · have hlt := relB_back hB hj (Array.getElem?_eq_getElem hjo) e.on (List.mem_map.2 ⟨e, List.mem_filter.2 ⟨by simpa using he, hb⟩, rfl⟩)
          exact ih _ hlt (by omega)
  have hturn : ∀ (listed : Array Bool) b w', listed.size = ops.size → (∀ j, j < m → listed.getD j false = true) → OnWay ops m Φ a w0 listed b w' → X listed w' → wpAny P .any ops Q (ops.size - m) listed b w' := by
    intro listed b w' hsz hl h hx
    have h1 := upon_inst (t := b) (List.range m) a (fun j hj => h.did j (List.mem_range.1 hj) (hl j (List.mem_range.1 hj))) (hend w' h.rel listed hsz hl h.un hx)
    have he : putAll ops b (List.range m) a = b := by
      have e1 : (putAll ops b (List.range m) a).tmps = b.tmps := by
        refine Array.ext (by rw [putAll_size, h.size]) fun k hk hk' => ?_
        have : (putAll ops b (List.range m) a).tmps[k]? = b.tmps[k]? := by
          by_cases hx : ∃ j : Nat, j < m ∧ (ops[j]?).bind (·.dst) = some k
          · obtain ⟨j, hjm, hj⟩ := hx
            exact putAll_eq _ _ h.size.symm hk' (.inl ⟨j, List.mem_range.2 hjm, hj⟩)
          · have hx' : ∀ j : Nat, j < m → (ops[j]?).bind (·.dst) ≠ some k := fun j hjm hj => hx ⟨j, hjm, hj⟩
            rw [putAll_ne _ _ (fun j hj => hx' j (List.mem_range.1 hj)), h.rest k hx']
        rw [Array.getElem?_eq_getElem hk, Array.getElem?_eq_getElem hk'] at this
        exact Option.some.inj this
      have e2 : (putAll ops b (List.range m) a).defers = b.defers := by rw [putAll_defers, h.df]
      cases hb : putAll ops b (List.range m) a
      cases b
      rw [hb] at e1 e2
      cases e1; cases e2; rfl
    rw [he] at h1
    exact h1
  refine wpAny_inv (fun listed b w' => ((OnWay ops m Φ a w0 listed b w' ∧ X listed w') ∧ ∀ j : Nat, l0.getD j false = true → listed.getD j false = true) ∨ ∃ fuel, wpAny P .any ops Q fuel listed b w') ?_ ?_ fuel _ a _ hsz0 hfu (.inl ⟨⟨⟨hR0, rfl, rfl, fun _ _ => rfl, hdid, hun0, hcl0⟩, hX0⟩, fun _ h => h⟩)
  · intro listed b w' i hsz hi h
    obtain ⟨hun, o, ho, hall'⟩ := mem_ready.1 hi
    have hio := (Array.getElem?_eq_some_iff.1 ho).1
    have hun' : listed.getD i false = false := by
      have : i < listed.size := by omega
      simp [this] at hun ⊢; exact hun
    have hw : ∀ j ∈ waits .any o, listed.getD j false = true := by
      intro j hj
      obtain ⟨e, he, rfl⟩ := List.mem_map.1 hj
      obtain ⟨he1, he2⟩ := List.mem_filter.1 he
      exact hall' e (by simpa using he1) (by simpa using he2)
    rcases h with ⟨⟨h, hX⟩, hl0⟩ | ⟨fuel, hf⟩
    case inr =>
      cases fuel with
      | zero => rw [hf.1] at hi; cases hi
      | succ f => exact wpOp_mono (fun _ _ h => .inr ⟨f, h⟩) (hf.2 i hi)
    rcases Nat.lt_or_ge i m with him | him
    case inr =>
      have hf := hturn listed b w' hsz (barL_all hC him ho h.cl hw hl0) h hX
      obtain ⟨f, hff⟩ : ∃ f, ops.size - m = f + 1 := ⟨ops.size - m - 1, by omega⟩
      rw [hff] at hf
      exact wpOp_mono (fun _ _ h => .inr ⟨f, h⟩) (hf.2 i hi)
    have hl1 : ∀ j : Nat, l0.getD j false = true → (listed.setIfInBounds i true).getD j false = true := fun j hj => getD_set_true (hl0 j hj)
    refine wpOp_mono (K := fun b' w'' => OnWay ops m Φ a w0 (listed.setIfInBounds i true) b' w'' ∧ X (listed.setIfInBounds i true) w'') (fun _ _ h => .inl ⟨h, hl1⟩) ?_
    have hnotyet : ∀ k o', ops[k]? = some o' → i ∈ waits .any o' → listed.getD k false = true → False := fun k o' hk hik hlk => by
      have := h.cl k o' hk hlk i hik
      rw [hun'] at this; cases this
    have hbk := relB_back hB him ho
    have hup : Up .any ops listed i o := ⟨hsz, hio, hw, hun', fun k o' hk hik => by
      by_cases hkm : k < m ∨ m ≤ k
      · cases hlk : listed.getD k false with
        | false => rfl
        | true =>
          exfalso
          exact hnotyet k o' hk hik hlk
      · omega⟩
    have hdo := hop i o him ho w' h.rel listed hup hX b ⟨h.size, h.rest, fun j hj => h.did j (by have := hbk j hj; omega) (hw j hj), fun j hj d hd => by
      cases hoj : ops[j]? with
      | none => rw [hoj] at hd; cases hd
      | some oj => rw [hoj] at hd; exact h.size ▸ relB_dst hB (by have := hbk j hj; omega) hoj hd⟩
    have h2 := hdo (fun a' w'' => ∃ u, a' = b.put o.dst u ∧ R w' w'' ∧ (Φ.getD i St.any).p (atDst (b.put o.dst u) o.dst) w'' ∧ X (listed.setIfInBounds i true) w'') (fun _ _ _ => False) (fun u w'' h3 h5 h4 => ⟨u, rfl, h3, ⟨by
      cases hd : o.dst with
      | none => rw [hd] at h4; exact h4
      | some d => rw [hd] at h4; rw [atDst_put (fun d' hd' => by cases hd'; exact h.size ▸ relB_dst hB him ho hd) (by simp)]; exact h4, h5⟩⟩)
    unfold wpOp
    simp only [ho]
    split
    · rename_i hwt
      rw [if_pos hwt] at h2
      refine .inl ?_
      unfold Oper.wp at *
      generalize (execOp b.eval o).run P w' = r at *
      cases r with
      | ok n w1 =>
        cases n <;> simp only [Oper.upon] at h2 ⊢
        case value u => obtain ⟨u', e, h3, h4, h5⟩ := h2; rw [e]; exact ⟨h.next hRt hB him ho h.size hw h3 h4, h5⟩
        case skip => obtain ⟨u', e, h3, h4, h5⟩ := h2; rw [e]; exact ⟨h.next hRt hB him ho h.size hw h3 h4, h5⟩
        case defer d =>
          obtain ⟨u', e, _⟩ := h2
          have := congrArg Act.defers e
          rw [put_defers, put_defers] at this
          exact absurd (congrArg List.length this) (by simp)
        case enter f args =>
          refine Calls.mono h2 fun e w'' he => ?_
          cases e with
          | returned u => obtain ⟨u', e, h3, h4, h5⟩ := he; show OnWay ops m Φ a w0 (listed.setIfInBounds i true) (b.put o.dst u) w'' ∧ X (listed.setIfInBounds i true) w''; rw [e]; exact ⟨h.next hRt hB him ho h.size hw h3 h4, h5⟩
          | panicked c => exact he.elim
          | outgrown => obtain ⟨_, _, hf⟩ := he; exact hf.elim
        case row row args => exact Rows.mono h2 fun u w'' he => by obtain ⟨u', e, h3, h4, h5⟩ := he; rw [e]; exact ⟨h.next hRt hB him ho h.size hw h3 h4, h5⟩
      | halt x w1 => cases x <;> simp only [Oper.upon] at h2 ⊢
    · rename_i hwt
      rw [if_neg hwt] at h2
      obtain ⟨u', e, h3, h4, h5⟩ := h2
      rw [e]
      exact ⟨h.next hRt hB him ho h.size hw h3 h4, h5⟩
  · intro listed b w' hsz hr h
    have hfin : ∀ fuel, wpAny P .any ops Q fuel listed b w' → Q .normal b w' := fun fuel hf => by
      cases fuel with
      | zero => exact hf.2
      | succ f => exact hf.1 hr
    rcases h with ⟨⟨h, hX⟩, _⟩ | ⟨fuel, hf⟩
    · exact hfin _ (hturn listed b w' hsz (hall listed b w' hsz (fun j _ => by rw [hr]; simp) h) h hX)
    · exact hfin _ hf

/-- The flags at the start, as a list: what is done of the first m, and that it is closed. -/
def closedB (md : Region.Mode) (ops : Array Oper) (l0 : Array Bool) : Bool :=
  (List.range ops.size).all fun k => !l0.getD k false || match ops[k]? with
    | none => true
    | some o => (waits md o).all fun j => l0.getD j false
theorem closedB_all {l0 : Array Bool} (h : closedB md ops l0 = true) (k : Nat) (o' : Oper) (hk : ops[k]? = some o') (hl : l0.getD k false = true) : ∀ j ∈ waits md o', l0.getD j false = true := by
  have h1 := List.all_eq_true.1 h k (List.mem_range.2 (Array.getElem?_eq_some_iff.1 hk).1)
  simp only [hk, hl, Bool.not_true, Bool.false_or] at h1
  intro j hj
  exact List.all_eq_true.1 h1 j hj
/-- What has been done ahead, one by one. -/
def dids (ops : Array Oper) {R : World → World → Prop} (Φ : List (St R)) (a : Act) (w : World) : List Nat → Prop
  | [] => True
  | j :: r => (Φ.getD j St.any).p (atDst a ((ops[j]?).bind (·.dst))) w ∧ dids ops Φ a w r
theorem dids_all {R : World → World → Prop} {Φ : List (St R)} {a : Act} {w : World} : ∀ (l : List Nat), dids ops Φ a w l → ∀ j ∈ l, (Φ.getD j St.any).p (atDst a ((ops[j]?).bind (·.dst))) w
  | [], _, j, h => by cases h
  | x :: r, hd, j, h => by
    rcases List.mem_cons.1 h with rfl | h
    · exact hd.1
    · exact dids_all r hd.2 j h
theorem wpAny_eachA {fuel : Nat} {a : Act} {w0 w : World} {l : List Oper} (m : Nat) (l0 fl : Array Bool) (ds : List Nat) (Φ : List (St Grow))
    (hB : relB .any l.toArray m a.tmps.size = true) (hC : barL .any l.toArray l0 m = true) (hs : Region.noSelect l.toArray = true) (hfl : (List.replicate m true ++ List.replicate (l.toArray.size - m) false).toArray = fl)
    (hg0 : Grow w0 w) (hsz0 : l0.size = l.toArray.size) (hfu : l0.toList.count false ≤ fuel) (hds : (List.range l0.size).filter (fun j => l0.getD j false) = ds) (hdm : ds.all (· < m) = true) (hcl : closedB .any l.toArray l0 = true) (hdid : dids l.toArray Φ a w ds)
    (hop : each (l.take m) 0 (fun i o => ∀ w', Grow w0 w' → ∀ A, Seen l.toArray m Φ a o A w' → does P l.toArray (Φ.getD i St.any) o w' A))
    (hend : ∀ w', Grow w0 w' → upon l.toArray Φ w' (List.range m) a (fun A => wpAny P .any l.toArray Q (l.toArray.size - m) fl A w')) : wpAny P .any l.toArray Q fuel l0 a w := by
  have hin : ∀ j : Nat, l0.getD j false = true → j ∈ ds := fun j hj => by
    rw [← hds]
    refine List.mem_filter.2 ⟨List.mem_range.2 ?_, hj⟩
    rcases Nat.lt_or_ge j l0.size with h' | h'
    · exact h'
    · simp [Array.getD_eq_getD_getElem?, Array.getElem?_eq_none h'] at hj
  refine wpAny_bar (w0 := w0) Grow Φ (fun _ _ => True) hB hC hs (fun _ _ _ => Grow.trans) hg0 trivial hsz0 hfu (fun j _ hj => dids_all ds hdid j (hin j hj)) (fun j hj => ?_) (closedB_all hcl) ?_ ?_
  · cases hl : l0.getD j false with
    | false => rfl
    | true =>
      have := List.all_eq_true.1 hdm j (hin j hl)
      simp at this; omega
  · intro i o hi ho w' hR listed _ _ A hA K Q' hK
    have h1 := each_get (l.take m) 0 hop i o (by rw [List.getElem?_take, if_pos hi]; simpa using ho)
    rw [Nat.zero_add] at h1
    exact h1 w' hR A hA K Q' (fun u w' h1 h2 => hK u w' h1 trivial h2)
  · intro w' hR listed hsz h1 h2 _
    have := listed_bar hsz h1 h2 (relB_le hB)
    rw [this, hfl]
    exact hend w' hR
end
end Go.Proofs.YteenglgnakenmaaDoor
