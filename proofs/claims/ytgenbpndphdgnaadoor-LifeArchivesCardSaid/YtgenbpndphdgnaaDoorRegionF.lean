/- A region that draws, with a relation that sees the frame (an allocation and the store into it among other operations). -/
import Derived.Test.YtgenbpndphdgnaaDoorRegion
namespace Go.Proofs.YtgenbpndphdgnaaDoor
open Go.RowKit
set_option linter.unusedVariables false
set_option linter.unusedSimpArgs false
variable {P : Program} {md : Region.Mode} {ops : Array Oper} {Q : Exit → Act → World → Prop}
def doesF (P : Program) (ops : Array Oper) {R : World → World → Prop} (S : St R) (Y : Value → World → Prop) (o : Oper) (w : World) (A : Act) : Prop :=
  ∀ (K : Act → World → Prop) (Q' : Exit → Act → World → Prop), (∀ u w', R w w' → Y u w' → S.p (o.dst.elim undef fun _ => u) w' → K (A.put o.dst u) w') →
    if Region.wanted o (yielded ops A.tmps) = true then Oper.wp P o A w K Q' else K (A.put o.dst undef) w
theorem wp_region_relF {id m : Nat} {a : Act} {w : World} (R : World → World → Prop) (Φ : List (St R)) (X : Array Bool → Act → World → Prop) (hm : P.follows .mixedOrders = true)
    (hB : relB .any ops m a.tmps.size = true) (hC : chainB .any ops m = true) (hs : Region.noSelect ops = true)
    (hRt : ∀ a b c, R a b → R b c → R a c) (hRd : R w { w with drawn := w.drawn + 1 }) (hX0 : X (Array.replicate ops.size false) a { w with drawn := w.drawn + 1 })
    (hop : ∀ i o, i < m → ops[i]? = some o → ∀ w', R w w' → ∀ listed, Up .any ops listed i o → ∀ A, X listed A w' → Seen ops m Φ a o A w' → doesF P ops (Φ.getD i St.any) (fun u => X (listed.setIfInBounds i true) (A.put o.dst u)) o w' A)
    (hend : ∀ w', R w w' → ∀ listed b, (∀ j, j < m → listed.getD j false = true) → X listed b w' → upon ops Φ w' (List.range m) a (fun A => A = b → wpList P ops Q (ops.toList.drop m) A w')) : (Code.region id ops true).wp P Q a w := by
  have hmn := relB_le hB
  have hall : ∀ (listed : Array Bool) b w', listed.size = ops.size → (∀ j, j < m → j ∉ Region.ready .any ops listed) → OnWay ops m Φ a w listed b w' → ∀ j, j < m → listed.getD j false = true := by
    intro listed b w' hsz hr h j
    induction j using Nat.strongRecOn with
    | _ j ih =>
      intro hj
      cases hl : listed.getD j false with
      | true => rfl
      | false =>
        exfalso
        have hjo : j < ops.size := by omega
        refine hr j hj (mem_ready.2 ⟨?_, ops[j], Array.getElem?_eq_getElem hjo, fun e he hb => ?_⟩)
        · have hj' : j < listed.size := by omega
          simp [hj'] at hl ⊢; exact hl
        · have hlt := relB_back hB hj (Array.getElem?_eq_getElem hjo) e.on (List.mem_map.2 ⟨e, List.mem_filter.2 ⟨by simpa using he, hb⟩, rfl⟩)
          exact ih _ hlt (by omega)
  have hturn : ∀ (listed : Array Bool) b w', (∀ j, j < m → listed.getD j false = true) → OnWay ops m Φ a w listed b w' → X listed b w' → wpList P ops Q (ops.toList.drop m) b w' := by
    intro listed b w' hl h hx
    have h1 := upon_inst (t := b) (List.range m) a (fun j hj => h.did j (List.mem_range.1 hj) (hl j (List.mem_range.1 hj))) (hend w' h.rel listed b hl hx)
    have he : putAll ops b (List.range m) a = b := by
      have e1 : (putAll ops b (List.range m) a).tmps = b.tmps := by
        refine Array.ext (by rw [putAll_size, h.size]) fun k hk hk' => ?_
        have : (putAll ops b (List.range m) a).tmps[k]? = b.tmps[k]? := by
          by_cases hx : ∃ j : Nat, j < m ∧ (ops[j]?).bind (·.dst) = some k
          · obtain ⟨j, hjm, hj⟩ := hx
            exact putAll_eq _ _ h.size.symm hk' (.inl ⟨j, List.mem_range.2 hjm, hj⟩)
          · have hx' : ∀ j : Nat, j < m → (ops[j]?).bind (·.dst) ≠ some k := fun j hjm hj => hx ⟨j, hjm, hj⟩
            rw [putAll_ne _ _ (fun j hj => hx' j (List.mem_range.1 hj)), h.rest k hx']
        rw [Array.getElem?_eq_getElem hk, Array.getElem?_eq_getElem hk'] at this
        exact Option.some.inj this
      have e2 : (putAll ops b (List.range m) a).defers = b.defers := by rw [putAll_defers, h.df]
      cases hb : putAll ops b (List.range m) a
      cases b
      rw [hb] at e1 e2
      cases e1; cases e2; rfl
    have h1 := h1 he
    rw [he] at h1
    exact h1
  refine wp_region_any hm (wpAny_inv (fun listed b w' => (OnWay ops m Φ a w listed b w' ∧ X listed b w') ∨ ∃ k, m < k ∧ OnTail P ops Q k listed b w') ?_ ?_ ops.size _ a _ (by simp) (by simp) (.inl ⟨⟨hRd, rfl, rfl, fun _ _ => rfl, fun j _ hj => ?_, fun j _ => ?_, fun k o' _ hk => ?_⟩, hX0⟩))
  · intro listed b w' i hsz hi h
    obtain ⟨hun, o, ho, hall'⟩ := mem_ready.1 hi
    have hio := (Array.getElem?_eq_some_iff.1 ho).1
    have hun' : listed.getD i false = false := by
      have : i < listed.size := by omega
      simp [this] at hun ⊢; exact hun
    have hw : ∀ j ∈ waits .any o, listed.getD j false = true := by
      intro j hj
      obtain ⟨e, he, rfl⟩ := List.mem_map.1 hj
      obtain ⟨he1, he2⟩ := List.mem_filter.1 he
      exact hall' e (by simpa using he1) (by simpa using he2)
    have hstay : ∀ k, (∀ j : Nat, j < k → j < ops.size → listed.getD j false = true) → (∀ j : Nat, k ≤ j → listed.getD j false = false) → i = k → (∀ j : Nat, j < k + 1 → j < ops.size → (listed.setIfInBounds i true).getD j false = true) ∧ (∀ j : Nat, k + 1 ≤ j → (listed.setIfInBounds i true).getD j false = false) := by
      rintro k h1 h2 rfl
      refine ⟨fun j hj hjo => ?_, fun j hj => ?_⟩
      · by_cases hji : j = i
        · subst hji
          have : j < listed.size := by omega
          simp [this]
        · rw [getD_set_ne false (Ne.symm hji)]; exact h1 j (by omega) hjo
      · rw [getD_set_ne false (by omega)]; exact h2 j (by omega)
    rcases h with ⟨h, hX⟩ | ⟨k, hmk, h1, h2, h3⟩
    case inr =>
      have hik : i = k := by
        rcases Nat.lt_trichotomy i k with h' | h' | h'
        · rw [h1 i h' hio] at hun'; cases hun'
        · exact h'
        · have hcl : ∀ (k' : Nat) o', ops[k']? = some o' → listed.getD k' false = true → ∀ j ∈ waits .any o', listed.getD j false = true := by
            intro k' o' hk' hl j hj
            have hk1 : k' < k := by
              rcases Nat.lt_or_ge k' k with h9 | h9
              · exact h9
              · rw [h2 k' h9] at hl; cases hl
            have hks := (Array.getElem?_eq_some_iff.1 hk').1
            have hjk : j < k' := by
              rcases Nat.lt_or_ge k' m with h9 | h9
              · exact relB_back hB h9 hk' j hj
              · exact chainB_back hC h9 hk' j hj
            exact h1 j (by omega) (by omega)
          have := chainB_all hC (by omega) ho hcl hw k h'
          rw [h2 k (Nat.le_refl _)] at this; cases this
      obtain ⟨g1, g2⟩ := hstay k h1 h2 hik
      rw [← hik] at h3
      refine wpOp_of_wpList ho h3 fun a' w'' h' => .inr ⟨k + 1, by omega, g1, g2, ?_⟩
      rw [← hik]; exact h'
    rcases Nat.lt_or_ge i m with him | him
    case inr =>
      have hpre : ∀ j, j < i → listed.getD j false = true := chainB_all hC him ho h.cl hw
      have him' : i = m := by
        rcases Nat.lt_or_ge m i with h' | h'
        · have := hpre m h'
          rw [h.un m (Nat.le_refl _)] at this; cases this
        · omega
      have h3 := hturn listed b w' (fun j hj => hpre j (by omega)) h hX
      obtain ⟨g1, g2⟩ := hstay m (fun j hj _ => hpre j (by omega)) h.un him'
      rw [← him'] at h3
      refine wpOp_of_wpList ho h3 fun a' w'' h' => .inr ⟨m + 1, by omega, g1, g2, ?_⟩
      rw [← him']; exact h'
    refine wpOp_mono (K := fun b' w'' => OnWay ops m Φ a w (listed.setIfInBounds i true) b' w'' ∧ X (listed.setIfInBounds i true) b' w'') (fun _ _ h => .inl h) ?_
    have hnotyet : ∀ k o', ops[k]? = some o' → i ∈ waits .any o' → listed.getD k false = true → False := fun k o' hk hik hlk => by
      have := h.cl k o' hk hlk i hik
      rw [hun'] at this; cases this
    have hbk := relB_back hB him ho
    have hup : Up .any ops listed i o := ⟨hsz, hio, hw, hun', fun k o' hk hik => by
      by_cases hkm : k < m ∨ m ≤ k
      · cases hlk : listed.getD k false with
        | false => rfl
        | true =>
          exfalso
          exact hnotyet k o' hk hik hlk
      · omega⟩
    have hdo := hop i o him ho w' h.rel listed hup b hX ⟨h.size, h.rest, fun j hj => h.did j (by have := hbk j hj; omega) (hw j hj), fun j hj d hd => by
      cases hoj : ops[j]? with
      | none => rw [hoj] at hd; cases hd
      | some oj => rw [hoj] at hd; exact h.size ▸ relB_dst hB (by have := hbk j hj; omega) hoj hd⟩
    have h2 := hdo (fun a' w'' => ∃ u, a' = b.put o.dst u ∧ R w' w'' ∧ (Φ.getD i St.any).p (atDst (b.put o.dst u) o.dst) w'' ∧ X (listed.setIfInBounds i true) (b.put o.dst u) w'') (fun _ _ _ => False) (fun u w'' h3 h5 h4 => ⟨u, rfl, h3, ⟨by
      cases hd : o.dst with
      | none => rw [hd] at h4; exact h4
      | some d => rw [hd] at h4; rw [atDst_put (fun d' hd' => by cases hd'; exact h.size ▸ relB_dst hB him ho hd) (by simp)]; exact h4, h5⟩⟩)
    unfold wpOp
    simp only [ho]
    split
    · rename_i hwt
      rw [if_pos hwt] at h2
      refine .inl ?_
      unfold Oper.wp at *
      generalize (execOp b.eval o).run P w' = r at *
      cases r with
      | ok n w1 =>
        cases n <;> simp only [Oper.upon] at h2 ⊢
        case value u => obtain ⟨u', e, h3, h4, h5⟩ := h2; rw [e]; exact ⟨h.next hRt hB him ho h.size hw h3 h4, h5⟩
        case skip => obtain ⟨u', e, h3, h4, h5⟩ := h2; rw [e]; exact ⟨h.next hRt hB him ho h.size hw h3 h4, h5⟩
        case defer d =>
          obtain ⟨u', e, _⟩ := h2
          have := congrArg Act.defers e
          rw [put_defers, put_defers] at this
          exact absurd (congrArg List.length this) (by simp)
        case enter f args =>
          refine Calls.mono h2 fun e w'' he => ?_
          cases e with
          | returned u => obtain ⟨u', e, h3, h4, h5⟩ := he; show OnWay ops m Φ a w (listed.setIfInBounds i true) (b.put o.dst u) w'' ∧ X (listed.setIfInBounds i true) (b.put o.dst u) w''; rw [e]; exact ⟨h.next hRt hB him ho h.size hw h3 h4, h5⟩
          | panicked c => exact he.elim
          | outgrown => obtain ⟨_, _, hf⟩ := he; exact hf.elim
        case row row args => exact Rows.mono h2 fun u w'' he => by obtain ⟨u', e, h3, h4, h5⟩ := he; rw [e]; exact ⟨h.next hRt hB him ho h.size hw h3 h4, h5⟩
      | halt x w1 => cases x <;> simp only [Oper.upon] at h2 ⊢
    · rename_i hwt
      rw [if_neg hwt] at h2
      obtain ⟨u', e, h3, h4, h5⟩ := h2
      rw [e]
      exact ⟨h.next hRt hB him ho h.size hw h3 h4, h5⟩
  · intro listed b w' hsz hr h
    rcases h with ⟨h, hX⟩ | ⟨k, hmk, h1, h2, h3⟩
    · have hl := hall listed b w' hsz (fun j _ => by rw [hr]; simp) h
      have h1 := hturn listed b w' hl h hX
      rcases Nat.lt_or_ge m ops.size with h' | h'
      · exfalso
        have hnr : m ∈ Region.ready .any ops listed := by
          refine mem_ready.2 ⟨?_, ops[m], Array.getElem?_eq_getElem h', fun e he hb => ?_⟩
          · have h2 := h.un m (Nat.le_refl _)
            have hj' : m < listed.size := by omega
            simp [hj'] at h2 ⊢; exact h2
          · exact hl _ (chainB_back hC (Nat.le_refl _) (Array.getElem?_eq_getElem h') e.on (List.mem_map.2 ⟨e, List.mem_filter.2 ⟨by simpa using he, hb⟩, rfl⟩))
        rw [hr] at hnr; cases hnr
      · rw [List.drop_eq_nil_of_le (by simpa using h')] at h1
        exact h1
    · rcases Nat.lt_or_ge k ops.size with h' | h'
      · exfalso
        have hnr : k ∈ Region.ready .any ops listed := by
          refine mem_ready.2 ⟨?_, ops[k], Array.getElem?_eq_getElem h', fun e he hb => ?_⟩
          · have h2 := h2 k (Nat.le_refl _)
            have hj' : k < listed.size := by omega
            simp [hj'] at h2 ⊢; exact h2
          · have hlt := chainB_back hC (by omega) (Array.getElem?_eq_getElem h') e.on (List.mem_map.2 ⟨e, List.mem_filter.2 ⟨by simpa using he, hb⟩, rfl⟩)
            exact h1 _ hlt (by omega)
        rw [hr] at hnr; cases hnr
      · rw [List.drop_eq_nil_of_le (by simpa using h')] at h3
        exact h3
  · exfalso
    simp only [Array.getD_eq_getD_getElem?] at hj
    rcases Nat.lt_or_ge j ops.size with h' | h'
    · simp [h'] at hj
    · simp [Nat.not_lt.2 h'] at hj
  · simp only [Array.getD_eq_getD_getElem?]
    rcases Nat.lt_or_ge j ops.size with h' | h'
    · simp [h']
    · simp [Nat.not_lt.2 h']
  · exfalso
    simp only [Array.getD_eq_getD_getElem?] at hk
    rcases Nat.lt_or_ge k ops.size with h' | h'
    · simp [h'] at hk
    · simp [Nat.not_lt.2 h'] at hk

section
variable {R : World → World → Prop} {S : St R} {o : Oper} {w : World} {A : Act} {Y : Value → World → Prop}
theorem doesF_plain (hg : o.guard = none) (h : ∀ (K : Act → World → Prop) (Q' : Exit → Act → World → Prop), (∀ u w', R w w' → Y u w' → S.p (o.dst.elim undef fun _ => u) w' → K (A.put o.dst u) w') → Oper.wp P o A w K Q') : doesF P ops S Y o w A := by
  intro K Q' hK
  rw [if_pos (by simp [Region.wanted, hg])]
  exact h K Q' hK
theorem doesF_on {g d : Nat} {b : Bool} (hg : o.guard = some (g, b)) (hd : (ops[g]?).bind (·.dst) = some d) (he : A.tmps[d]? = some (.bool b))
    (h : ∀ (K : Act → World → Prop) (Q' : Exit → Act → World → Prop), (∀ u w', R w w' → Y u w' → S.p (o.dst.elim undef fun _ => u) w' → K (A.put o.dst u) w') → Oper.wp P o A w K Q') : doesF P ops S Y o w A := by
  intro K Q' hK
  rw [if_pos (by simp [Region.wanted, hg, yielded, hd, he])]
  exact h K Q' hK
end
section
variable {m : Nat} {R : World → World → Prop} {Φ : List (St R)} {a A : Act} {o : Oper} {w : World} {S : St R}
theorem doesF_off {g d : Nat} {b : Bool} {v : Value} (hg : o.guard = some (g, b)) (hd : (ops[g]?).bind (·.dst) = some d) (he : A.tmps[d]? = some v) (hv : v ≠ .bool b) {Y : Value → World → Prop} (hR : R w w) (hY : Y undef w)
    (hp : S.p undef w) : doesF P ops S Y o w A := by
  intro K Q' hK
  rw [if_neg ?_]
  · refine hK _ _ hR hY ?_
    cases o.dst <;> exact hp
  · simp only [Region.wanted, hg, yielded, hd, Option.bind_some, he]
    intro hh
    split at hh <;> simp_all
end
theorem wp_region_eachF {id m : Nat} {a : Act} {w : World} {l : List Oper} (R : World → World → Prop) (Φ : List (St R)) (X : Array Bool → Act → World → Prop) (hm : P.follows .mixedOrders = true)
    (hB : relB .any l.toArray m a.tmps.size = true) (hC : chainB .any l.toArray m = true) (hs : Region.noSelect l.toArray = true)
    (hRt : ∀ a b c, R a b → R b c → R a c) (hRd : R w w.drew) (hX0 : X (Array.replicate l.length false) a w.drew)
    (hop : each (l.take m) 0 (fun i o => ∀ w', R w w' → ∀ listed, Up .any l.toArray listed i o → ∀ A, X listed A w' → Seen l.toArray m Φ a o A w' → doesF P l.toArray (Φ.getD i St.any) (fun u => X (listed.setIfInBounds i true) (A.put o.dst u)) o w' A))
    (hend : ∀ w', R w w' → ∀ listed b, (∀ j, j < m → listed.getD j false = true) → X listed b w' → upon l.toArray Φ w' (List.range m) a (fun A => A = b → wpList P l.toArray Q (l.drop m) A w')) : (Code.region id l.toArray true).wp P Q a w :=
  wp_region_relF R Φ X hm hB hC hs hRt hRd (by simpa using hX0)
    (fun i o hi ho => by have := each_get (l.take m) 0 hop i o (by rw [List.getElem?_take, if_pos hi]; simpa using ho); rwa [Nat.zero_add] at this) (by simpa using hend)
end Go.Proofs.YtgenbpndphdgnaaDoor
