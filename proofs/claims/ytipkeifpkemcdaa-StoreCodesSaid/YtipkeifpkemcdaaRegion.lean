/- A rule for regions that draw their order: each operation by itself, whatever the order, with what holds of the operations it waits for. -/
import Derived.RegionTactic
import Derived.Below
import Derived.Laws.Rows
namespace Go.Proofs.Ytipkeifpkemcdaa
open Go.RowKit
set_option linter.unusedVariables false
set_option linter.unusedSimpArgs false

section
variable {P : Program} {md : Region.Mode} {ops : Array Oper} {Q : Exit → Act → World → Prop}

theorem count_unset {l : List Bool} {i : Nat} (h : l[i]? = some false) : (l.set i true).count false < l.count false := by
  have hi : i < l.length := (List.getElem?_eq_some_iff.1 h).1
  have he : l[i] = false := (List.getElem?_eq_some_iff.1 h).2
  rw [List.count_set hi]
  have : 0 < l.count false := List.count_pos_iff.2 (he ▸ List.getElem_mem hi)
  simp [he]; omega

theorem ready_unset {listed : Array Bool} {i : Nat} (h : i ∈ Region.ready md ops listed) : listed.toList[i]? = some false := by
  have h0 := (mem_ready.1 h).1
  rcases Nat.lt_or_ge i listed.size with h' | h'
  · rw [Array.getElem?_toList, Array.getElem?_eq_getElem h']
    simp [h'] at h0
    rw [h0]
  · simp [Array.getElem?_eq_none h'] at h0

theorem wpAny_inv (I : Array Bool → Act → World → Prop)
    (hstep : ∀ (listed : Array Bool) a w i, listed.size = ops.size → i ∈ Region.ready md ops listed → I listed a w → wpOp P ops Q i (I (listed.setIfInBounds i true)) a w)
    (hend : ∀ (listed : Array Bool) a w, listed.size = ops.size → Region.ready md ops listed = [] → I listed a w → Q .normal a w) :
    ∀ (fuel : Nat) (listed : Array Bool) a w, listed.size = ops.size → listed.toList.count false ≤ fuel → I listed a w → wpAny P md ops Q fuel listed a w
  | 0, listed, a, w, hs, hc, h => by
    have hr : Region.ready md ops listed = [] := by
      cases hr : Region.ready md ops listed with
      | nil => rfl
      | cons x xs =>
        have h1 := ready_unset (md := md) (ops := ops) (listed := listed) (i := x) (by rw [hr]; simp)
        have := count_unset h1
        omega
    exact ⟨hr, hend listed a w hs hr h⟩
  | fuel + 1, listed, a, w, hs, hc, h => by
    refine ⟨fun hr => hend listed a w hs hr h, fun i hi => ?_⟩
    refine wpOp_mono (fun a' w' h' => wpAny_inv I hstep hend fuel _ a' w' (by simp [hs]) ?_ h') (hstep listed a w i hs hi h)
    have := count_unset (ready_unset hi)
    rw [Array.toList_setIfInBounds]
    omega

/-- The operations that i waits for. -/
def waits (md : Region.Mode) (o : Oper) : List Nat := (o.after.toList.filter fun e => Region.binds md e).map (·.on)

/-- Of the first m operations: all edges lead back; each temporary is one operation's, and there; what is looked at is waited for. -/
def relOne (md : Region.Mode) (ops : Array Oper) (m n i : Nat) (o : Oper) : Bool :=
  (waits md o).all (· < i) &&
  (match o.dst with | some d => decide (d < n) | none => true) &&
  ((List.range m).all fun j => j == i || match o.dst, (ops[j]?).bind (·.dst) with | some d, some e => d != e | _, _ => true) &&
  ((o.looksAt ops).all fun k => (waits md o).any (fun j => (ops[j]?).bind (·.dst) == some k) || (List.range m).all fun j => (ops[j]?).bind (·.dst) != some k)
def relB (md : Region.Mode) (ops : Array Oper) (m n : Nat) : Bool :=
  decide (m ≤ ops.size) && (List.range m).all fun i => match ops[i]? with
    | none => true
    | some o => relOne md ops m n i o
/-- An operation waits for j, or for one that does. -/
def reach (md : Region.Mode) (ops : Array Oper) : Nat → Oper → Nat → Bool
  | 0, o, j => (waits md o).contains j
  | f + 1, o, j => (waits md o).contains j || (waits md o).any fun k => match ops[k]? with
    | some o' => reach md ops f o' j
    | none => false
theorem reach_listed {listed : Array Bool} (hcl : ∀ (k : Nat) o', ops[k]? = some o' → listed.getD k false = true → ∀ j ∈ waits md o', listed.getD j false = true) :
    ∀ (f : Nat) (o : Oper) (j : Nat), (∀ j ∈ waits md o, listed.getD j false = true) → reach md ops f o j = true → listed.getD j false = true
  | 0, o, j, hw, h => hw j (by simpa [reach] using h)
  | f + 1, o, j, hw, h => by
    simp only [reach, Bool.or_eq_true] at h
    rcases h with h | h
    · exact hw j (by simpa using h)
    · obtain ⟨k, hk, h⟩ := List.any_eq_true.1 h
      cases ho : ops[k]? with
      | none => rw [ho] at h; cases h
      | some o' => rw [ho] at h; exact reach_listed hcl f o' j (hcl k o' ho (hw k hk)) h
/-- From the m-th on each operation waits for all ahead of it. -/
def chainB (md : Region.Mode) (ops : Array Oper) (m : Nat) : Bool :=
  (List.range ops.size).all fun i => decide (i < m) || match ops[i]? with
    | none => true
    | some o => (waits md o).all (· < i) && (List.range i).all fun j => reach md ops 8 o j

section
variable {m n : Nat}
theorem relB_le (h : relB md ops m n = true) : m ≤ ops.size := by
  simp only [relB, Bool.and_eq_true, decide_eq_true_eq] at h; exact h.1
theorem relB_all {i : Nat} {o : Oper} (h : relB md ops m n = true) (hi : i < m) (ho : ops[i]? = some o) : relOne md ops m n i o = true := by
  simp only [relB, Bool.and_eq_true, decide_eq_true_eq] at h
  have h2 := List.all_eq_true.1 h.2 i (List.mem_range.2 hi)
  simpa only [ho] using h2
theorem relB_back {i : Nat} {o : Oper} (h : relB md ops m n = true) (hi : i < m) (ho : ops[i]? = some o) : ∀ j ∈ waits md o, j < i := by
  have := relB_all h hi ho
  simp only [relOne, Bool.and_eq_true] at this
  intro j hj
  simpa using List.all_eq_true.1 this.1.1.1 j hj
theorem relB_dst {i d : Nat} {o : Oper} (h : relB md ops m n = true) (hi : i < m) (ho : ops[i]? = some o) (hd : o.dst = some d) : d < n := by
  have := relB_all h hi ho
  simp only [relOne, Bool.and_eq_true, hd] at this
  simpa using this.1.1.2
theorem relB_apart {i j d : Nat} {o o' : Oper} (h : relB md ops m n = true) (hi : i < m) (hj : j < m) (ho : ops[i]? = some o) (ho' : ops[j]? = some o') (hd : o.dst = some d) (hd' : o'.dst = some d) : j = i := by
  have := relB_all h hi ho
  simp only [relOne, Bool.and_eq_true, hd] at this
  have h2 := List.all_eq_true.1 this.1.2 j (List.mem_range.2 hj)
  simpa [ho', hd'] using h2
theorem relB_looks {i k : Nat} {o : Oper} (h : relB md ops m n = true) (hi : i < m) (ho : ops[i]? = some o) (hk : k ∈ o.looksAt ops) :
    (∃ j ∈ waits md o, (ops[j]?).bind (·.dst) = some k) ∨ ∀ j : Nat, j < m → (ops[j]?).bind (·.dst) ≠ some k := by
  have := relB_all h hi ho
  simp only [relOne, Bool.and_eq_true] at this
  have h2 := List.all_eq_true.1 this.2 k hk
  rw [Bool.or_eq_true] at h2
  rcases h2 with h2 | h2
  · obtain ⟨j, hj, he⟩ := List.any_eq_true.1 h2
    exact .inl ⟨j, hj, by simpa using he⟩
  · refine .inr fun j h' => ?_
    simpa using List.all_eq_true.1 h2 j (List.mem_range.2 h')
theorem chainB_one {i : Nat} {o : Oper} (h : chainB md ops m = true) (hi : m ≤ i) (ho : ops[i]? = some o) : ((waits md o).all (· < i) && (List.range i).all fun j => reach md ops 8 o j) = true := by
  have h1 := List.all_eq_true.1 h i (List.mem_range.2 (Array.getElem?_eq_some_iff.1 ho).1)
  simp only [ho, Bool.or_eq_true, decide_eq_true_eq] at h1
  exact h1.resolve_left (by omega)
theorem chainB_all {i : Nat} {o : Oper} (h : chainB md ops m = true) (hi : m ≤ i) (ho : ops[i]? = some o) {listed : Array Bool} (hcl : ∀ (k : Nat) o', ops[k]? = some o' → listed.getD k false = true → ∀ j ∈ waits md o', listed.getD j false = true)
    (hw : ∀ j ∈ waits md o, listed.getD j false = true) : ∀ j, j < i → listed.getD j false = true := by
  have h1 := chainB_one h hi ho
  rw [Bool.and_eq_true] at h1
  intro j hj
  exact reach_listed hcl 8 o j hw (List.all_eq_true.1 h1.2 j (List.mem_range.2 hj))
theorem chainB_back {i : Nat} {o : Oper} (h : chainB md ops m = true) (hi : m ≤ i) (ho : ops[i]? = some o) : ∀ j ∈ waits md o, j < i := by
  have h1 := chainB_one h hi ho
  rw [Bool.and_eq_true] at h1
  intro j hj
  simpa using List.all_eq_true.1 h1.1 j hj
end

/-- What stands in an operation's temporary. -/
def atDst (a : Act) : Option Tmp → Value
  | some d => a.tmps.getD d undef
  | none => undef

/-- What holds of one operation's value, and stays. -/
structure St (R : World → World → Prop) where
  p : Value → World → Prop
  st : ∀ v w w', p v w → R w w' → p v w'
def St.eq {R : World → World → Prop} (v0 : Value) : St R := ⟨fun v _ => v = v0, fun _ _ _ h _ => h⟩
def St.any {R : World → World → Prop} : St R := ⟨fun _ _ => True, fun _ _ _ _ _ => trivial⟩

/-- The state with what those operations have left, whatever it is. -/
def upon (ops : Array Oper) {R : World → World → Prop} (Φ : List (St R)) (w : World) : List Nat → Act → (Act → Prop) → Prop
  | [], a, G => G a
  | j :: js, a, G => ∀ v, (Φ.getD j St.any).p v w → upon ops Φ w js (a.put ((ops[j]?).bind (·.dst)) v) G

def putAll (ops : Array Oper) (t : Act) : List Nat → Act → Act
  | [], a => a
  | j :: js, a => putAll ops t js (a.put ((ops[j]?).bind (·.dst)) (atDst t ((ops[j]?).bind (·.dst))))

theorem upon_inst {R : World → World → Prop} {Φ : List (St R)} {w : World} {t : Act} {G : Act → Prop} : ∀ (js : List Nat) (a : Act),
    (∀ j ∈ js, (Φ.getD j St.any).p (atDst t ((ops[j]?).bind (·.dst))) w) → upon ops Φ w js a G → G (putAll ops t js a)
  | [], a, _, h => h
  | j :: js, a, hj, h => upon_inst js _ (fun k hk => hj k (by simp [hk])) (h _ (hj j (by simp)))

theorem putAll_defers {t : Act} : ∀ (js : List Nat) (a : Act), (putAll ops t js a).defers = a.defers
  | [], _ => rfl
  | j :: js, a => by rw [putAll, putAll_defers js]; cases (ops[j]?).bind (·.dst) <;> rfl
theorem putAll_size {t : Act} : ∀ (js : List Nat) (a : Act), (putAll ops t js a).tmps.size = a.tmps.size
  | [], _ => rfl
  | j :: js, a => by rw [putAll, putAll_size js]; cases (ops[j]?).bind (·.dst) <;> simp [Act.put]
theorem putAll_ne {t : Act} {k : Nat} : ∀ (js : List Nat) (a : Act), (∀ j ∈ js, (ops[j]?).bind (·.dst) ≠ some k) → (putAll ops t js a).tmps[k]? = a.tmps[k]?
  | [], _, _ => rfl
  | j :: js, a, h => by
    rw [putAll, putAll_ne js _ (fun i hi => h i (by simp [hi]))]
    have := h j (by simp)
    cases hd : (ops[j]?).bind (·.dst) with
    | none => rfl
    | some d => rw [hd] at this; simp only [Act.put]; rw [Array.getElem?_setIfInBounds_ne (by simpa using this)]
theorem putAll_eq {t : Act} {k : Nat} : ∀ (js : List Nat) (a : Act), a.tmps.size = t.tmps.size → k < t.tmps.size → ((∃ j ∈ js, (ops[j]?).bind (·.dst) = some k) ∨ a.tmps[k]? = t.tmps[k]?) → (putAll ops t js a).tmps[k]? = t.tmps[k]?
  | [], _, _, _, h => by rcases h with ⟨j, hj, _⟩ | h; cases hj; exact h
  | j :: js, a, hs, hk, h => by
    rw [putAll]
    refine putAll_eq js _ ?_ hk ?_
    · cases (ops[j]?).bind (·.dst) <;> simp [Act.put, hs]
    · by_cases hj : (ops[j]?).bind (·.dst) = some k
      · right
        rw [hj]
        simp [Act.put, atDst, hs, hk]
      · rcases h with ⟨i, hi, he⟩ | h
        · rcases List.mem_cons.1 hi with rfl | hi
          · exact absurd he hj
          · exact .inl ⟨i, hi, he⟩
        · right
          cases hd : (ops[j]?).bind (·.dst) with
          | none => exact h
          | some d => simp only [Act.put]; rw [Array.getElem?_setIfInBounds_ne (by rw [hd] at hj; simpa using hj)]; exact h

theorem wanted_congr (o : Oper) {a b : Act} (h : ∀ k ∈ o.looksAt ops, a.tmps[k]? = b.tmps[k]?) : Region.wanted o (yielded ops a.tmps) = Region.wanted o (yielded ops b.tmps) := by
  unfold Region.wanted
  cases hg : o.guard with
  | none => rfl
  | some gw =>
    obtain ⟨g, want⟩ := gw
    have hy : yielded ops a.tmps g = yielded ops b.tmps g := by
      unfold yielded
      cases ht : (ops[g]?).bind (·.dst) with
      | none => rfl
      | some t => simp only [Option.bind_some]; rw [h t (by simp [Oper.looksAt, hg, ht])]
    simp only [hy]

/-- What an operation finds: what stood in the frame ahead of the region, and what those have left that it waits for. -/
structure Seen (ops : Array Oper) (m : Nat) {R : World → World → Prop} (Φ : List (St R)) (a : Act) (o : Oper) (A : Act) (w : World) : Prop where
  size : A.tmps.size = a.tmps.size
  rest : ∀ k, (∀ j : Nat, j < m → (ops[j]?).bind (·.dst) ≠ some k) → A.tmps[k]? = a.tmps[k]?
  did : ∀ j ∈ waits .any o, (Φ.getD j St.any).p (atDst A ((ops[j]?).bind (·.dst))) w
  lt : ∀ j ∈ waits .any o, ∀ d, (ops[j]?).bind (·.dst) = some d → d < A.tmps.size

/-- What is asked of one operation, with a word on the world behind it. -/
def doesY (P : Program) (ops : Array Oper) {R : World → World → Prop} (S : St R) (Y : World → Prop) (o : Oper) (w : World) (A : Act) : Prop :=
  ∀ (K : Act → World → Prop) (Q' : Exit → Act → World → Prop), (∀ u w', R w w' → Y w' → S.p (o.dst.elim undef fun _ => u) w' → K (A.put o.dst u) w') →
    if Region.wanted o (yielded ops A.tmps) = true then Oper.wp P o A w K Q' else K (A.put o.dst undef) w
/-- What is known of what has come up when operation i does. -/
structure Up (md : Region.Mode) (ops : Array Oper) (listed : Array Bool) (i : Nat) (o : Oper) : Prop where
  size : listed.size = ops.size
  lt : i < ops.size
  did : ∀ j ∈ waits md o, listed.getD j false = true
  self : listed.getD i false = false
  not : ∀ k o', ops[k]? = some o' → i ∈ waits md o' → listed.getD k false = false
/-- What is asked of one operation. -/
def does (P : Program) (ops : Array Oper) {R : World → World → Prop} (S : St R) (o : Oper) (w : World) (A : Act) : Prop :=
  ∀ (K : Act → World → Prop) (Q' : Exit → Act → World → Prop), (∀ u w', R w w' → S.p (o.dst.elim undef fun _ => u) w' → K (A.put o.dst u) w') →
    if Region.wanted o (yielded ops A.tmps) = true then Oper.wp P o A w K Q' else K (A.put o.dst undef) w

/-- What holds on the way. -/
structure OnWay (ops : Array Oper) (m : Nat) {R : World → World → Prop} (Φ : List (St R)) (a : Act) (w : World) (listed : Array Bool) (b : Act) (w' : World) : Prop where
  rel : R w w'
  df : b.defers = a.defers
  size : b.tmps.size = a.tmps.size
  rest : ∀ k, (∀ j : Nat, j < m → (ops[j]?).bind (·.dst) ≠ some k) → b.tmps[k]? = a.tmps[k]?
  did : ∀ j : Nat, j < m → listed.getD j false = true → (Φ.getD j St.any).p (atDst b ((ops[j]?).bind (·.dst))) w'
  un : ∀ j : Nat, m ≤ j → listed.getD j false = false
  cl : ∀ (k : Nat) o', ops[k]? = some o' → listed.getD k false = true → ∀ j ∈ waits .any o', listed.getD j false = true

theorem atDst_put {b : Act} {x : Option Tmp} {u : Value} (h : ∀ d, x = some d → d < b.tmps.size) : x ≠ none → atDst (b.put x u) x = u := by
  cases x with
  | none => intro h; exact absurd rfl h
  | some d => intro _; have := h d rfl; simp [atDst, Act.put, this]
theorem atDst_ne {b : Act} {x y : Option Tmp} {u : Value} (h : ∀ d, x = some d → y ≠ some d) : atDst (b.put x u) y = atDst b y := by
  cases x with
  | none => rfl
  | some d =>
    cases y with
    | none => rfl
    | some e =>
      have hne : d ≠ e := fun he => h d rfl (he ▸ rfl)
      simp [atDst, Act.put, Array.getElem?_setIfInBounds_ne hne]
theorem put_defers (b : Act) (x : Option Tmp) (u : Value) : (b.put x u).defers = b.defers := by cases x <;> rfl
theorem put_size (b : Act) (x : Option Tmp) (u : Value) : (b.put x u).tmps.size = b.tmps.size := by cases x <;> simp [Act.put]
theorem atDst_put2 {A b : Act} {x : Option Tmp} {u : Value} (hA : ∀ d, x = some d → d < A.tmps.size) (hb : ∀ d, x = some d → d < b.tmps.size) : atDst (A.put x u) x = atDst (b.put x u) x := by
  cases x with
  | none => rfl
  | some d => rw [atDst_put hA (by simp), atDst_put hb (by simp)]

theorem OnWay.next {R : World → World → Prop} {Φ : List (St R)} {a b A : Act} {w w' w'' : World} {listed : Array Bool} {m i : Nat} {o : Oper} {u : Value}
    (h : OnWay ops m Φ a w listed b w') (hRt : ∀ a b c, R a b → R b c → R a c) (hB : relB md ops m a.tmps.size = true) (hi : i < m) (ho : ops[i]? = some o) (hA : A.tmps.size = a.tmps.size)
    (hw : ∀ j ∈ waits .any o, listed.getD j false = true) (hr : R w' w'') (hp : (Φ.getD i St.any).p (atDst (A.put o.dst u) o.dst) w'') : OnWay ops m Φ a w (listed.setIfInBounds i true) (b.put o.dst u) w'' := by
  have hdst : ∀ d, o.dst = some d → d < a.tmps.size := fun d hd => relB_dst hB hi ho hd
  refine ⟨hRt _ _ _ h.rel hr, by rw [put_defers, h.df], by rw [put_size, h.size], fun k hk => ?_, fun j hjm hj => ?_, fun j hj => ?_, fun k o' hk hkl j hj => ?_⟩
  · rw [← h.rest k hk]
    cases hd : o.dst with
    | none => rfl
    | some d =>
      have := hk i hi
      rw [ho] at this
      simp only [Option.bind_some, hd] at this
      simp only [Act.put]; rw [Array.getElem?_setIfInBounds_ne (by simpa using this)]
  · by_cases hji : j = i
    · subst hji
      rw [ho]
      show (Φ.getD j St.any).p (atDst (b.put o.dst u) o.dst) w''
      rw [← atDst_put2 (A := A) (fun d hd => hA ▸ hdst d hd) (fun d hd => h.size ▸ hdst d hd)]
      exact hp
    · rw [getD_set_ne false (Ne.symm hji)] at hj
      have := (Φ.getD j St.any).st _ _ _ (h.did j hjm hj) hr
      rwa [atDst_ne]
      intro d hd he
      cases hoj : ops[j]? with
      | none => rw [hoj] at he; cases he
      | some oj =>
        rw [hoj] at he
        exact hji (relB_apart hB hi hjm ho hoj hd he)
  · rw [getD_set_ne false (by omega)]; exact h.un j hj
  · by_cases hki : k = i
    · subst hki
      have ho' : o' = o := Option.some.inj (hk.symm.trans ho)
      rw [ho'] at hj
      exact getD_set_true (hw j hj)
    · rw [getD_set_ne false (Ne.symm hki)] at hkl
      exact getD_set_true (h.cl k o' hk hkl j hj)

/-- Behind the k-th operation: the rest as it stands. -/
def OnTail (P : Program) (ops : Array Oper) (Q : Exit → Act → World → Prop) (k : Nat) (listed : Array Bool) (b : Act) (w' : World) : Prop :=
  (∀ j : Nat, j < k → j < ops.size → listed.getD j false = true) ∧ (∀ j : Nat, k ≤ j → listed.getD j false = false) ∧ wpList P ops Q (ops.toList.drop k) b w'

theorem drop_cons {i : Nat} {o : Oper} (ho : ops[i]? = some o) : ops.toList.drop i = o :: ops.toList.drop (i + 1) := by
  have hi := (Array.getElem?_eq_some_iff.1 ho).1
  have he := (Array.getElem?_eq_some_iff.1 ho).2
  rw [List.drop_eq_getElem_cons (by simpa using hi)]
  simp [he]

theorem wpOp_of_wpList {i : Nat} {o : Oper} {b : Act} {w' : World} {K : Act → World → Prop} (ho : ops[i]? = some o) (h : wpList P ops Q (ops.toList.drop i) b w') (hK : ∀ a w, wpList P ops Q (ops.toList.drop (i + 1)) a w → K a w) : wpOp P ops Q i K b w' := by
  rw [drop_cons ho] at h
  unfold wpList at h
  refine wpOp_mono (K := wpList P ops Q (ops.toList.drop (i + 1))) hK ?_
  unfold wpOp
  simp only [ho]
  exact h

theorem wp_region_relX {id m : Nat} {a : Act} {w : World} (R : World → World → Prop) (Φ : List (St R)) (X : Array Bool → World → Prop) (hm : P.follows .mixedOrders = true)
    (hB : relB .any ops m a.tmps.size = true) (hC : chainB .any ops m = true) (hs : Region.noSelect ops = true)
    (hRt : ∀ a b c, R a b → R b c → R a c) (hRd : R w { w with drawn := w.drawn + 1 }) (hX0 : X (Array.replicate ops.size false) { w with drawn := w.drawn + 1 })
    (hop : ∀ i o, i < m → ops[i]? = some o → ∀ w', R w w' → ∀ listed, Up .any ops listed i o → X listed w' → ∀ A, Seen ops m Φ a o A w' → doesY P ops (Φ.getD i St.any) (X (listed.setIfInBounds i true)) o w' A)
    (hend : ∀ w', R w w' → ∀ listed, (∀ j, j < m → listed.getD j false = true) → X listed w' → upon ops Φ w' (List.range m) a (fun A => wpList P ops Q (ops.toList.drop m) A w')) : (Code.region id ops true).wp P Q a w := by
  have hmn := relB_le hB
  have hall : ∀ (listed : Array Bool) b w', listed.size = ops.size → (∀ j, j < m → j ∉ Region.ready .any ops listed) → OnWay ops m Φ a w listed b w' → ∀ j, j < m → listed.getD j false = true := by
    intro listed b w' hsz hr h j
    induction j using Nat.strongRecOn with
    | _ j ih =>
      intro hj
      cases hl : listed.getD j false with
      | true => rfl
      | false =>
        exfalso
        have hjo : j < ops.size := by omega
        refine hr j hj (mem_ready.2 ⟨?_, ops[j], Array.getElem?_eq_getElem hjo, fun e he hb => ?_⟩)
        · have hj' : j < listed.size := by omega
          simp [hj'] at hl ⊢; exact hl
        · have hlt := relB_back hB hj (Array.getElem?_eq_getElem hjo) e.on (List.mem_map.2 ⟨e, List.mem_filter.2 ⟨by simpa using he, hb⟩, rfl⟩)
          exact ih _ hlt (by omega)
  have hturn : ∀ (listed : Array Bool) b w', (∀ j, j < m → listed.getD j false = true) → OnWay ops m Φ a w listed b w' → X listed w' → wpList P ops Q (ops.toList.drop m) b w' := by
    intro listed b w' hl h hx
    have h1 := upon_inst (t := b) (List.range m) a (fun j hj => h.did j (List.mem_range.1 hj) (hl j (List.mem_range.1 hj))) (hend w' h.rel listed hl hx)
    have he : putAll ops b (List.range m) a = b := by
      have e1 : (putAll ops b (List.range m) a).tmps = b.tmps := by
        refine Array.ext (by rw [putAll_size, h.size]) fun k hk hk' => ?_
        have : (putAll ops b (List.range m) a).tmps[k]? = b.tmps[k]? := by
          by_cases hx : ∃ j : Nat, j < m ∧ (ops[j]?).bind (·.dst) = some k
          · obtain ⟨j, hjm, hj⟩ := hx
            exact putAll_eq _ _ h.size.symm hk' (.inl ⟨j, List.mem_range.2 hjm, hj⟩)
          · have hx' : ∀ j : Nat, j < m → (ops[j]?).bind (·.dst) ≠ some k := fun j hjm hj => hx ⟨j, hjm, hj⟩
            rw [putAll_ne _ _ (fun j hj => hx' j (List.mem_range.1 hj)), h.rest k hx']
        rw [Array.getElem?_eq_getElem hk, Array.getElem?_eq_getElem hk'] at this
        exact Option.some.inj this
      have e2 : (putAll ops b (List.range m) a).defers = b.defers := by rw [putAll_defers, h.df]
      cases hb : putAll ops b (List.range m) a
      cases b
      rw [hb] at e1 e2
      cases e1; cases e2; rfl
    rw [he] at h1
    exact h1
  refine wp_region_any hm (wpAny_inv (fun listed b w' => (OnWay ops m Φ a w listed b w' ∧ X listed w') ∨ ∃ k, m < k ∧ OnTail P ops Q k listed b w') ?_ ?_ ops.size _ a _ (by simp) (by simp) (.inl ⟨⟨hRd, rfl, rfl, fun _ _ => rfl, fun j _ hj => ?_, fun j _ => ?_, fun k o' _ hk => ?_⟩, hX0⟩))
  · intro listed b w' i hsz hi h
    obtain ⟨hun, o, ho, hall'⟩ := mem_ready.1 hi
    have hio := (Array.getElem?_eq_some_iff.1 ho).1
    have hun' : listed.getD i false = false := by
      have : i < listed.size := by omega
      simp [this] at hun ⊢; exact hun
    have hw : ∀ j ∈ waits .any o, listed.getD j false = true := by
      intro j hj
      obtain ⟨e, he, rfl⟩ := List.mem_map.1 hj
      obtain ⟨he1, he2⟩ := List.mem_filter.1 he
      exact hall' e (by simpa using he1) (by simpa using he2)
    have hstay : ∀ k, (∀ j : Nat, j < k → j < ops.size → listed.getD j false = true) → (∀ j : Nat, k ≤ j → listed.getD j false = false) → i = k → (∀ j : Nat, j < k + 1 → j < ops.size → (listed.setIfInBounds i true).getD j false = true) ∧ (∀ j : Nat, k + 1 ≤ j → (listed.setIfInBounds i true).getD j false = false) := by
      rintro k h1 h2 rfl
      refine ⟨fun j hj hjo => ?_, fun j hj => ?_⟩
      · by_cases hji : j = i
        · subst hji
          have : j < listed.size := by omega
          simp [this]
        · rw [getD_set_ne false (Ne.symm hji)]; exact h1 j (by omega) hjo
      · rw [getD_set_ne false (by omega)]; exact h2 j (by omega)
    rcases h with ⟨h, hX⟩ | ⟨k, hmk, h1, h2, h3⟩
    case inr =>
      have hik : i = k := by
        rcases Nat.lt_trichotomy i k with h' | h' | h'
        · rw [h1 i h' hio] at hun'; cases hun'
        · exact h'
        · have hcl : ∀ (k' : Nat) o', ops[k']? = some o' → listed.getD k' false = true → ∀ j ∈ waits .any o', listed.getD j false = true := by
            intro k' o' hk' hl j hj
            have hk1 : k' < k := by
              rcases Nat.lt_or_ge k' k with h9 | h9
              · exact h9
              · rw [h2 k' h9] at hl; cases hl
            have hks := (Array.getElem?_eq_some_iff.1 hk').1
            have hjk : j < k' := by
              rcases Nat.lt_or_ge k' m with h9 | h9
              · exact relB_back hB h9 hk' j hj
              · exact chainB_back hC h9 hk' j hj
            exact h1 j (by omega) (by omega)
          have := chainB_all hC (by omega) ho hcl hw k h'
          rw [h2 k (Nat.le_refl _)] at this; cases this
      obtain ⟨g1, g2⟩ := hstay k h1 h2 hik
      rw [← hik] at h3
      refine wpOp_of_wpList ho h3 fun a' w'' h' => .inr ⟨k + 1, by omega, g1, g2, ?_⟩
      rw [← hik]; exact h'
    rcases Nat.lt_or_ge i m with him | him
    case inr =>
      have hpre : ∀ j, j < i → listed.getD j false = true := chainB_all hC him ho h.cl hw
      have him' : i = m := by
        rcases Nat.lt_or_ge m i with h' | h'
        · have := hpre m h'
          rw [h.un m (Nat.le_refl _)] at this; cases this
        · omega
      have h3 := hturn listed b w' (fun j hj => hpre j (by omega)) h hX
      obtain ⟨g1, g2⟩ := hstay m (fun j hj _ => hpre j (by omega)) h.un him'
      rw [← him'] at h3
      refine wpOp_of_wpList ho h3 fun a' w'' h' => .inr ⟨m + 1, by omega, g1, g2, ?_⟩
      rw [← him']; exact h'
    refine wpOp_mono (K := fun b' w'' => OnWay ops m Φ a w (listed.setIfInBounds i true) b' w'' ∧ X (listed.setIfInBounds i true) w'') (fun _ _ h => .inl h) ?_
    have hnotyet : ∀ k o', ops[k]? = some o' → i ∈ waits .any o' → listed.getD k false = true → False := fun k o' hk hik hlk => by
      have := h.cl k o' hk hlk i hik
      rw [hun'] at this; cases this
    have hbk := relB_back hB him ho
    have hup : Up .any ops listed i o := ⟨hsz, hio, hw, hun', fun k o' hk hik => by
      by_cases hkm : k < m ∨ m ≤ k
      · cases hlk : listed.getD k false with
        | false => rfl
        | true =>
          exfalso
          exact hnotyet k o' hk hik hlk
      · omega⟩
    have hdo := hop i o him ho w' h.rel listed hup hX b ⟨h.size, h.rest, fun j hj => h.did j (by have := hbk j hj; omega) (hw j hj), fun j hj d hd => by
      cases hoj : ops[j]? with
      | none => rw [hoj] at hd; cases hd
      | some oj => rw [hoj] at hd; exact h.size ▸ relB_dst hB (by have := hbk j hj; omega) hoj hd⟩
    have h2 := hdo (fun a' w'' => ∃ u, a' = b.put o.dst u ∧ R w' w'' ∧ (Φ.getD i St.any).p (atDst (b.put o.dst u) o.dst) w'' ∧ X (listed.setIfInBounds i true) w'') (fun _ _ _ => False) (fun u w'' h3 h5 h4 => ⟨u, rfl, h3, ⟨by
      cases hd : o.dst with
      | none => rw [hd] at h4; exact h4
      | some d => rw [hd] at h4; rw [atDst_put (fun d' hd' => by cases hd'; exact h.size ▸ relB_dst hB him ho hd) (by simp)]; exact h4, h5⟩⟩)
    unfold wpOp
    simp only [ho]
    split
    · rename_i hwt
      rw [if_pos hwt] at h2
      refine .inl ?_
      unfold Oper.wp at *
      generalize (execOp b.eval o).run P w' = r at *
      cases r with
      | ok n w1 =>
        cases n <;> simp only [Oper.upon] at h2 ⊢
        case value u => obtain ⟨u', e, h3, h4, h5⟩ := h2; rw [e]; exact ⟨h.next hRt hB him ho h.size hw h3 h4, h5⟩
        case skip => obtain ⟨u', e, h3, h4, h5⟩ := h2; rw [e]; exact ⟨h.next hRt hB him ho h.size hw h3 h4, h5⟩
        case defer d =>
          obtain ⟨u', e, _⟩ := h2
          have := congrArg Act.defers e
          rw [put_defers, put_defers] at this
          exact absurd (congrArg List.length this) (by simp)
        case enter f args =>
          refine Calls.mono h2 fun e w'' he => ?_
          cases e with
          | returned u => obtain ⟨u', e, h3, h4, h5⟩ := he; show OnWay ops m Φ a w (listed.setIfInBounds i true) (b.put o.dst u) w'' ∧ X (listed.setIfInBounds i true) w''; rw [e]; exact ⟨h.next hRt hB him ho h.size hw h3 h4, h5⟩
          | panicked c => exact he.elim
          | outgrown => obtain ⟨_, _, hf⟩ := he; exact hf.elim
        case row row args => exact Rows.mono h2 fun u w'' he => by obtain ⟨u', e, h3, h4, h5⟩ := he; rw [e]; exact ⟨h.next hRt hB him ho h.size hw h3 h4, h5⟩
      | halt x w1 => cases x <;> simp only [Oper.upon] at h2 ⊢
    · rename_i hwt
      rw [if_neg hwt] at h2
      obtain ⟨u', e, h3, h4, h5⟩ := h2
      rw [e]
      exact ⟨h.next hRt hB him ho h.size hw h3 h4, h5⟩
  · intro listed b w' hsz hr h
    rcases h with ⟨h, hX⟩ | ⟨k, hmk, h1, h2, h3⟩
    · have hl := hall listed b w' hsz (fun j _ => by rw [hr]; simp) h
      have h1 := hturn listed b w' hl h hX
      rcases Nat.lt_or_ge m ops.size with h' | h'
      · exfalso
        have hnr : m ∈ Region.ready .any ops listed := by
          refine mem_ready.2 ⟨?_, ops[m], Array.getElem?_eq_getElem h', fun e he hb => ?_⟩
          · have h2 := h.un m (Nat.le_refl _)
            have hj' : m < listed.size := by omega
            simp [hj'] at h2 ⊢; exact h2
          · exact hl _ (chainB_back hC (Nat.le_refl _) (Array.getElem?_eq_getElem h') e.on (List.mem_map.2 ⟨e, List.mem_filter.2 ⟨by simpa using he, hb⟩, rfl⟩))
        rw [hr] at hnr; cases hnr
      · rw [List.drop_eq_nil_of_le (by simpa using h')] at h1
        exact h1
    · rcases Nat.lt_or_ge k ops.size with h' | h'
      · exfalso
        have hnr : k ∈ Region.ready .any ops listed := by
          refine mem_ready.2 ⟨?_, ops[k], Array.getElem?_eq_getElem h', fun e he hb => ?_⟩
          · have h2 := h2 k (Nat.le_refl _)
            have hj' : k < listed.size := by omega
            simp [hj'] at h2 ⊢; exact h2
          · have hlt := chainB_back hC (by omega) (Array.getElem?_eq_getElem h') e.on (List.mem_map.2 ⟨e, List.mem_filter.2 ⟨by simpa using he, hb⟩, rfl⟩)
            exact h1 _ hlt (by omega)
        rw [hr] at hnr; cases hnr
      · rw [List.drop_eq_nil_of_le (by simpa using h')] at h3
        exact h3
  · exfalso
    simp only [Array.getD_eq_getD_getElem?] at hj
    rcases Nat.lt_or_ge j ops.size with h' | h'
    · simp [h'] at hj
    · simp [Nat.not_lt.2 h'] at hj
  · simp only [Array.getD_eq_getD_getElem?]
    rcases Nat.lt_or_ge j ops.size with h' | h'
    · simp [h']
    · simp [Nat.not_lt.2 h']
  · exfalso
    simp only [Array.getD_eq_getD_getElem?] at hk
    rcases Nat.lt_or_ge k ops.size with h' | h'
    · simp [h'] at hk
    · simp [Nat.not_lt.2 h'] at hk

theorem wp_region_rel {id m : Nat} {a : Act} {w : World} (R : World → World → Prop) (Φ : List (St R)) (hm : P.follows .mixedOrders = true)
    (hB : relB .any ops m a.tmps.size = true) (hC : chainB .any ops m = true) (hs : Region.noSelect ops = true)
    (hRt : ∀ a b c, R a b → R b c → R a c) (hRd : R w { w with drawn := w.drawn + 1 })
    (hop : ∀ i o, i < m → ops[i]? = some o → ∀ w', R w w' → ∀ A, Seen ops m Φ a o A w' → does P ops (Φ.getD i St.any) o w' A)
    (hend : ∀ w', R w w' → upon ops Φ w' (List.range m) a (fun A => wpList P ops Q (ops.toList.drop m) A w')) : (Code.region id ops true).wp P Q a w :=
  wp_region_relX R Φ (fun _ _ => True) hm hB hC hs hRt hRd trivial (fun i o hi ho w' hR _ _ _ A hA K Q' hK => hop i o hi ho w' hR A hA K Q' (fun u w' h1 h2 => hK u w' h1 trivial h2)) (fun w' hR _ _ _ => hend w' hR)

/-- More memory, the old as it was. -/
def Grow (w w' : World) : Prop := Below w.heap.size w w'
theorem Grow.refl (w : World) : Grow w w := Below.refl _ _
theorem Grow.trans {a b c : World} (h : Grow a b) (k : Grow b c) : Grow a c := Below.trans h (Below.mono k h.size)

/-- Operation by operation. -/
def each (l : List Oper) (k : Nat) (G : Nat → Oper → Prop) : Prop := match l with
  | [] => True
  | o :: l => G k o ∧ each l (k + 1) G
theorem each_get {G : Nat → Oper → Prop} : ∀ (l : List Oper) (k : Nat), each l k G → ∀ i o, l[i]? = some o → G (k + i) o
  | [], _, _, i, o, h => by simp at h
  | x :: l, k, hh, 0, o, h => by simp at h; subst h; exact hh.1
  | x :: l, k, hh, i + 1, o, h => by have := each_get l (k + 1) hh.2 i o (by simpa using h); rwa [Nat.add_assoc, Nat.add_comm 1 i] at this
/-- The rule where memory grows alone in the first m operations, written out; the others stand one behind the other. -/
theorem wp_region_each {id : Nat} {a : Act} {w : World} {l : List Oper} (m : Nat) (Φ : List (St Grow)) (hm : P.follows .mixedOrders = true)
    (hB : relB .any l.toArray m a.tmps.size = true) (hC : chainB .any l.toArray m = true) (hs : Region.noSelect l.toArray = true)
    (hop : each (l.take m) 0 (fun i o => ∀ w', Grow w w' → ∀ A, Seen l.toArray m Φ a o A w' → does P l.toArray (Φ.getD i St.any) o w' A))
    (hend : ∀ w', Grow w w' → upon l.toArray Φ w' (List.range m) a (fun A => wpList P l.toArray Q (l.drop m) A w')) : (Code.region id l.toArray true).wp P Q a w :=
  wp_region_rel Grow Φ hm hB hC hs (fun _ _ _ => Grow.trans) (Below.refl _ w).drew
    (fun i o hi ho => by have := each_get (l.take m) 0 hop i o (by rw [List.getElem?_take, if_pos hi]; simpa using ho); rwa [Nat.zero_add] at this) (by simpa using hend)

theorem each_n {k : Nat} {G : Nat → Oper → Prop} : each [] k G := trivial
theorem each_c {l : List Oper} {k : Nat} {G : Nat → Oper → Prop} {o' : Oper} (h1 : G k o') (h2 : each l (k + 1) G) : each (o' :: l) k G := ⟨h1, h2⟩
theorem upon_n {R : World → World → Prop} {Φ : List (St R)} {w : World} {a : Act} {G : Act → Prop} (h : G a) : upon ops Φ w [] a G := h
theorem upon_w' {R : World → World → Prop} {Φ : List (St R)} {w : World} {is js : List Nat} {a : Act} {G : Act → Prop} (h : is = js) (hh : upon ops Φ w js a G) : upon ops Φ w is a G := h ▸ hh
/-- A block of which some cells are stored in the region: cell k by operation j. -/
abbrev Watch (R : World → World → Prop) := List (Nat × Nat × (Value → World → Prop))
/-- The block, as far as the stores have come. -/
def Cells (b : Nat) (T : TypeId) (C0 : Array Value) (W : List (Nat × Nat × (Value → World → Prop))) (listed : Array Bool) (w : World) : Prop :=
  ∃ C, w.heap[b]? = some (.cells C T (0, 0)) ∧ C.size = C0.size ∧ ∀ k, match W.find? (fun x => x.1 == k) with
    | none => C[k]? = C0[k]?
    | some (_, j, p) => if listed.getD j false then ∃ v, C[k]? = some v ∧ p v w else C[k]? = C0[k]?
section
variable {b : Nat} {T : TypeId} {C0 : Array Value} {W : List (Nat × Nat × (Value → World → Prop))} {listed : Array Bool} {w w' : World} {i : Nat}
theorem Cells.start (h : w.heap[b]? = some (.cells C0 T (0, 0))) (n : Nat) : Cells b T C0 W (Array.replicate n false) w := by
  refine ⟨C0, h, rfl, fun k => ?_⟩
  split
  · rfl
  · rename_i j p _
    rw [if_neg]
    simp only [Array.getD_eq_getD_getElem?]
    rcases Nat.lt_or_ge j n with h' | h'
    · simp [h']
    · simp [Nat.not_lt.2 h']
theorem Cells.startD (h : w.heap[b]? = some (.cells C0 T (0, 0))) (n : Nat) : Cells b T C0 W (Array.replicate n false) w.drew := Cells.start (w := w.drew) h n
theorem Cells.lt (h : Cells b T C0 W listed w) : b < w.heap.size := let ⟨_, h, _⟩ := h; block_lt' h
where block_lt' {w : World} {p : Nat} {o : Obj} (h : w.heap[p]? = some o) : p < w.heap.size := (Array.getElem?_eq_some_iff.1 h).1
theorem Cells.frozen (h : Cells b T C0 W listed w) (j : Nat) : w.frozen? ⟨b, j, none⟩ = false := by
  obtain ⟨C, h, _⟩ := h
  exact frozen_of_row w b j C T h
/-- A cell that is not stored, or not yet. -/
theorem Cells.old (h : Cells b T C0 W listed w) (k : Nat) {v : Value} (hv : C0[k]? = some v) (hk : ∀ j p, W.find? (fun x => x.1 == k) = some (k, j, p) → listed.getD j false = false) : w.cell? ⟨b, k, none⟩ = some v := by
  obtain ⟨C, h, _, hC⟩ := h
  rw [cell_of_row w b k C T (0, 0) h]
  have := hC k
  cases hf : W.find? (fun x => x.1 == k) with
  | none => rw [hf] at this; rw [this, hv]
  | some x =>
    obtain ⟨k', j, p⟩ := x
    rw [hf] at this
    have hkk : k' = k := by simpa using List.find?_some hf
    subst hkk
    simp only [hk j p hf] at this
    rw [if_neg (by simp)] at this
    rw [this, hv]
/-- A cell is there. -/
theorem Cells.there (h : Cells b T C0 W listed w) (k : Nat) (hk : k < C0.size) : ∃ v, w.cell? ⟨b, k, none⟩ = some v := by
  obtain ⟨C, h, hs, _⟩ := h
  rw [cell_of_row w b k C T (0, 0) h]
  exact ⟨C[k]'(by omega), Array.getElem?_eq_getElem (by omega)⟩
/-- An operation that stores none of them. -/
theorem Cells.pass (h : Cells b T C0 W listed w) (hb : w'.heap[b]? = w.heap[b]?) (hp : ∀ x ∈ W, ∀ v, x.2.2 v w → x.2.2 v w') (hi : ∀ x ∈ W, x.2.1 ≠ i) : Cells b T C0 W (listed.setIfInBounds i true) w' := by
  obtain ⟨C, h, hs, hC⟩ := h
  refine ⟨C, hb ▸ h, hs, fun k => ?_⟩
  have := hC k
  cases hf : W.find? (fun x => x.1 == k) with
  | none => rw [hf] at this; exact this
  | some x =>
    obtain ⟨k', j, p⟩ := x
    rw [hf] at this
    have hm := List.mem_of_find?_eq_some hf
    simp only [] at this ⊢
    rw [getD_set_ne false (Ne.symm (hi _ hm))]
    split at this
    · rename_i hl
      rw [if_pos hl]
      obtain ⟨v, h1, h2⟩ := this
      exact ⟨v, h1, hp _ hm v h2⟩
    · rename_i hl
      rw [if_neg hl]; exact this
/-- The store of one cell. -/
theorem Cells.store (h : Cells b T C0 W listed w) (k : Nat) (v : Value) (hk : k < C0.size) (hi : i < listed.size) {p0 : Value → World → Prop} (hW : W.find? (fun x => x.1 == k) = some (k, i, p0)) (hone : ∀ x ∈ W, x.2.1 = i → x.1 = k)
    (hp : ∀ x ∈ W, ∀ v', x.2.2 v' w → x.2.2 v' (w.setCell ⟨b, k, none⟩ v)) (hv : p0 v (w.setCell ⟨b, k, none⟩ v)) : Cells b T C0 W (listed.setIfInBounds i true) (w.setCell ⟨b, k, none⟩ v) := by
  obtain ⟨C, h, hs, hC⟩ := h
  refine ⟨C.setIfInBounds k v, heap_setCell_same w b k C T v h |>.trans rfl, by simp [hs], fun k' => ?_⟩
  have := hC k'
  by_cases hkk : k' = k
  · subst hkk
    rw [hW]
    simp only []
    rw [if_pos (by simp [hi])]
    exact ⟨v, by simp [hs, hk], hv⟩
  · cases hf : W.find? (fun x => x.1 == k') with
    | none => rw [hf] at this; rw [Array.getElem?_setIfInBounds_ne (Ne.symm hkk)]; exact this
    | some x =>
      obtain ⟨k'', j, p⟩ := x
      rw [hf] at this
      have hm := List.mem_of_find?_eq_some hf
      have hk2 : k'' = k' := by simpa using List.find?_some hf
      subst hk2
      have hji : j ≠ i := fun e => hkk (hone _ hm e)
      simp only [] at this ⊢
      rw [getD_set_ne false (Ne.symm hji), Array.getElem?_setIfInBounds_ne (Ne.symm hkk)]
      split at this
      · rename_i hl
        rw [if_pos hl]
        obtain ⟨u, h1, h2⟩ := this
        exact ⟨u, h1, hp _ hm u h2⟩
      · rename_i hl
        rw [if_neg hl]; exact this
end
def noStore (W : List (Nat × Nat × (Value → World → Prop))) (i : Nat) : Bool := W.all fun x => x.2.1 != i
theorem Cells.same {b : Nat} {T : TypeId} {C0 : Array Value} {W : List (Nat × Nat × (Value → World → Prop))} {listed : Array Bool} {w : World} {i : Nat} (h : Cells b T C0 W listed w) (hi : noStore W i = true) : Cells b T C0 W (listed.setIfInBounds i true) w :=
  h.pass rfl (fun _ _ _ h => h) (fun x hx => by simpa using List.all_eq_true.1 hi x hx)
theorem Up.later {listed : Array Bool} {i : Nat} {o : Oper} (h : Up md ops listed i o) (j : Nat) (hj : ((ops[j]?).map fun o => (waits md o).contains i) = some true) : listed.getD j false = false := by
  cases ho : ops[j]? with
  | none => rw [ho] at hj; cases hj
  | some o' => rw [ho] at hj; exact h.not j o' ho (by simpa using hj)
/-- A cell whose store is not yet done. -/
theorem Cells.yet {b : Nat} {T : TypeId} {C0 : Array Value} {W : List (Nat × Nat × (Value → World → Prop))} {listed : Array Bool} {w : World} (h : Cells b T C0 W listed w) (k j : Nat) {v : Value} (hv : C0[k]? = some v) (hf : (W.find? (fun x => x.1 == k)).map (·.2.1) = some j) (hj : listed.getD j false = false) : w.cell? ⟨b, k, none⟩ = some v :=
  h.old k hv fun j' p he => by rw [he] at hf; simp at hf; rw [hf]; exact hj
/-- A cell that is not stored at all. -/
theorem Cells.never {b : Nat} {T : TypeId} {C0 : Array Value} {W : List (Nat × Nat × (Value → World → Prop))} {listed : Array Bool} {w : World} (h : Cells b T C0 W listed w) (k : Nat) {v : Value} (hv : C0[k]? = some v) (hf : (W.find? (fun x => x.1 == k)).isNone = true) : w.cell? ⟨b, k, none⟩ = some v :=
  h.old k hv fun j' p he => by rw [he] at hf; cases hf
/-- All are stored. -/
theorem Cells.done {b : Nat} {T : TypeId} {C0 : Array Value} {W : List (Nat × Nat × (Value → World → Prop))} {listed : Array Bool} {w : World} (h : Cells b T C0 W listed w) (m : Nat) (hl : ∀ j, j < m → listed.getD j false = true) (hW : (W.all fun x => decide (x.2.1 < m)) = true) :
    ∃ C, w.heap[b]? = some (.cells C T (0, 0)) ∧ C.size = C0.size ∧ ∀ k, match W.find? (fun x => x.1 == k) with
    | none => C[k]? = C0[k]?
    | some (_, _, p) => ∃ v, C[k]? = some v ∧ p v w := by
  obtain ⟨C, h, hs, hC⟩ := h
  refine ⟨C, h, hs, fun k => ?_⟩
  have := hC k
  cases hf : W.find? (fun x => x.1 == k) with
  | none => rw [hf] at this; exact this
  | some x =>
    obtain ⟨k', j, p⟩ := x
    rw [hf] at this
    have hm := List.mem_of_find?_eq_some hf
    have hj : j < m := by simpa using List.all_eq_true.1 hW _ hm
    simp only [] at this ⊢
    rw [hl j hj, if_pos rfl] at this
    exact this
/-- The rule, operation by operation. -/
theorem wp_region_eachX {id m : Nat} {a : Act} {w : World} {l : List Oper} (R : World → World → Prop) (Φ : List (St R)) (X : Array Bool → World → Prop) (hm : P.follows .mixedOrders = true)
    (hB : relB .any l.toArray m a.tmps.size = true) (hC : chainB .any l.toArray m = true) (hs : Region.noSelect l.toArray = true)
    (hRt : ∀ a b c, R a b → R b c → R a c) (hRd : R w w.drew) (hX0 : X (Array.replicate l.length false) w.drew)
    (hop : each (l.take m) 0 (fun i o => ∀ w', R w w' → ∀ listed, Up .any l.toArray listed i o → X listed w' → ∀ A, Seen l.toArray m Φ a o A w' → doesY P l.toArray (Φ.getD i St.any) (X (listed.setIfInBounds i true)) o w' A))
    (hend : ∀ w', R w w' → ∀ listed, (∀ j, j < m → listed.getD j false = true) → X listed w' → upon l.toArray Φ w' (List.range m) a (fun A => wpList P l.toArray Q (l.drop m) A w')) : (Code.region id l.toArray true).wp P Q a w :=
  wp_region_relX R Φ X hm hB hC hs hRt hRd (by simpa using hX0)
    (fun i o hi ho => by have := each_get (l.take m) 0 hop i o (by rw [List.getElem?_take, if_pos hi]; simpa using ho); rwa [Nat.zero_add] at this) (by simpa using hend)
section
variable {R : World → World → Prop} {S : St R} {o : Oper} {w : World} {A : Act} {Y : World → Prop}
theorem doesY_plain (hg : o.guard = none) (h : ∀ (K : Act → World → Prop) (Q' : Exit → Act → World → Prop), (∀ u w', R w w' → Y w' → S.p (o.dst.elim undef fun _ => u) w' → K (A.put o.dst u) w') → Oper.wp P o A w K Q') : doesY P ops S Y o w A := by
  intro K Q' hK
  rw [if_pos (by simp [Region.wanted, hg])]
  exact h K Q' hK
theorem doesY_on {g d : Nat} {b : Bool} (hg : o.guard = some (g, b)) (hd : (ops[g]?).bind (·.dst) = some d) (he : A.tmps[d]? = some (.bool b))
    (h : ∀ (K : Act → World → Prop) (Q' : Exit → Act → World → Prop), (∀ u w', R w w' → Y w' → S.p (o.dst.elim undef fun _ => u) w' → K (A.put o.dst u) w') → Oper.wp P o A w K Q') : doesY P ops S Y o w A := by
  intro K Q' hK
  rw [if_pos (by simp [Region.wanted, hg, yielded, hd, he])]
  exact h K Q' hK
end
theorem upon_c {R : World → World → Prop} {Φ : List (St R)} {w : World} {j : Nat} {js : List Nat} {a : Act} {G : Act → Prop} {x : Option Tmp} {S : St R} (hx : (ops[j]?).bind (·.dst) = x) (hS : Φ.getD j St.any = S)
    (h : ∀ v, S.p v w → upon ops Φ w js (a.put x v) G) : upon ops Φ w (j :: js) a G := by
  subst hx; subst hS; exact h

section
variable {m : Nat} {R : World → World → Prop} {Φ : List (St R)} {a A : Act} {o : Oper} {w : World} {S : St R}
theorem Seen.dep (h : Seen ops m Φ a o A w) (j : Nat) {d : Nat} (hj : (waits .any o).contains j = true) (hd : (ops[j]?).bind (·.dst) = some d) (hS : Φ.getD j St.any = S) : ∃ v, A.tmps[d]? = some v ∧ S.p v w := by
  have hj' : j ∈ waits .any o := by simpa using hj
  have h1 := h.did j hj'
  rw [hd, hS] at h1
  have hlt : d < A.tmps.size := h.lt j hj' d hd
  refine ⟨A.tmps[d], Array.getElem?_eq_getElem hlt, ?_⟩
  simpa [atDst, hlt] using h1
theorem ne_tf : Value.bool true ≠ .bool false := by simp
theorem ne_ft : Value.bool false ≠ .bool true := by simp
theorem ne_un (b : Bool) : undef ≠ .bool b := by simp [undef]
theorem Seen.slot (h : Seen ops m Φ a o A w) (k : Nat) {v : Value} (hk : ((List.range m).all fun j => (ops[j]?).bind (·.dst) != some k) = true) (hv : a.tmps[k]? = some v) : A.tmps[k]? = some v := by
  rw [h.rest k fun j hj => by simpa using List.all_eq_true.1 hk j (List.mem_range.2 hj)]; exact hv
theorem does_plain (hg : o.guard = none) (h : ∀ (K : Act → World → Prop) (Q' : Exit → Act → World → Prop), (∀ u w', R w w' → S.p (o.dst.elim undef fun _ => u) w' → K (A.put o.dst u) w') → Oper.wp P o A w K Q') : does P ops S o w A := by
  intro K Q' hK
  rw [if_pos (by simp [Region.wanted, hg])]
  exact h K Q' hK
theorem does_on {g d : Nat} {b : Bool} (hg : o.guard = some (g, b)) (hd : (ops[g]?).bind (·.dst) = some d) (he : A.tmps[d]? = some (.bool b))
    (h : ∀ (K : Act → World → Prop) (Q' : Exit → Act → World → Prop), (∀ u w', R w w' → S.p (o.dst.elim undef fun _ => u) w' → K (A.put o.dst u) w') → Oper.wp P o A w K Q') : does P ops S o w A := by
  intro K Q' hK
  rw [if_pos (by simp [Region.wanted, hg, yielded, hd, he])]
  exact h K Q' hK
theorem does_off {g d : Nat} {b : Bool} {v : Value} (hg : o.guard = some (g, b)) (hd : (ops[g]?).bind (·.dst) = some d) (he : A.tmps[d]? = some v) (hv : v ≠ .bool b) (hR : R w w)
    (hp : S.p undef w) : does P ops S o w A := by
  intro K Q' hK
  rw [if_neg ?_]
  · refine hK _ _ hR ?_
    cases o.dst <;> exact hp
  · simp only [Region.wanted, hg, yielded, hd, Option.bind_some, he]
    intro hh
    split at hh <;> simp_all
theorem doesY_off {g d : Nat} {b : Bool} {v : Value} (hg : o.guard = some (g, b)) (hd : (ops[g]?).bind (·.dst) = some d) (he : A.tmps[d]? = some v) (hv : v ≠ .bool b) {Y : World → Prop} (hR : R w w) (hY : Y w)
    (hp : S.p undef w) : doesY P ops S Y o w A := by
  intro K Q' hK
  rw [if_neg ?_]
  · refine hK _ _ hR hY ?_
    cases o.dst <;> exact hp
  · simp only [Region.wanted, hg, yielded, hd, Option.bind_some, he]
    intro hh
    split at hh <;> simp_all
end
end
section
variable {ops : Array Oper} {m : Nat} {R : World → World → Prop} {Φ : List (St R)} {a A : Act} {o : Oper} {w : World} {S : St R} {G : Act → Prop} {j : Nat} {js : List Nat}
theorem Seen.dp (h : Seen ops m Φ a o A w) (j d : Nat) (hj : (waits .any o).contains j = true := by kernel_rfl) (hd : (ops[j]?).bind (·.dst) = some d := by kernel_rfl) (hS : Φ.getD j St.any = S := by exact rfl) : ∃ v, A.tmps[d]? = some v ∧ S.p v w := h.dep j hj hd hS
theorem Seen.de {u : Value} (h : Seen ops m Φ a o A w) (j d : Nat) (hj : (waits .any o).contains j = true := by kernel_rfl) (hd : (ops[j]?).bind (·.dst) = some d := by kernel_rfl) (hS : Φ.getD j St.any = .eq u := by exact rfl) : A.tmps[d]? = some u := by
  obtain ⟨v, h1, h2⟩ := h.dep j hj hd hS
  rcases h2 with rfl
  exact h1
theorem Seen.sl (h : Seen ops m Φ a o A w) (k : Nat) (v : Value) (hk : ((List.range m).all fun j => (ops[j]?).bind (·.dst) != some k) = true := by kernel_rfl) (hv : a.tmps[k]? = some v := by exact rfl) : A.tmps[k]? = some v := h.slot k hk hv
theorem upon_v (x : Option Tmp) (h : ∀ v, S.p v w → upon ops Φ w js (a.put x v) G) (hx : (ops[j]?).bind (·.dst) = x := by kernel_rfl) (hS : Φ.getD j St.any = S := by exact rfl) : upon ops Φ w (j :: js) a G := upon_c hx hS h
theorem upon_e {u : Value} (x : Option Tmp) (h : upon ops Φ w js (a.put x u) G) (hx : (ops[j]?).bind (·.dst) = x := by kernel_rfl) (hS : Φ.getD j St.any = .eq u := by exact rfl) : upon ops Φ w (j :: js) a G := upon_c hx hS (by rintro v rfl; exact h)
end
theorem each_5 {l : List Oper} {k : Nat} {G : Nat → Oper → Prop} {a b c d e : Oper} (h1 : G k a) (h2 : G (k + 1) b) (h3 : G (k + 1 + 1) c) (h4 : G (k + 1 + 1 + 1) d) (h5 : G (k + 1 + 1 + 1 + 1) e) (h : each l (k + 1 + 1 + 1 + 1 + 1) G) : each (a :: b :: c :: d :: e :: l) k G := ⟨h1, h2, h3, h4, h5, h⟩
end Go.Proofs.Ytipkeifpkemcdaa
