/- The log, plainly: what stands on the disk behind a commit, and behind a fall in it. -/
import Derived.Test.YtipkeifpkemcdaaWalO
namespace Go.Proofs.Ytipkeifpkemcdaa
open Go.RowKit
set_option linter.unusedVariables false
set_option linter.unusedSimpArgs false
abbrev SecL := List (List UInt8 × Bool)
def secAt (sec : SecL) (i : Nat) : List UInt8 × Bool := sec.getD i default
theorem secAt_set (sec : SecL) (i j : Nat) (x : List UInt8 × Bool) (hi : i < sec.length) : secAt (sec.set i x) j = if i = j then x else secAt sec j := by
  unfold secAt
  rw [List.getD_eq_getElem?_getD, List.getD_eq_getElem?_getD, List.getElem?_set]
  by_cases h : i = j
  · subst h; simp [hi]
  · simp [h]
theorem secAt_set_ne (sec : SecL) (i j : Nat) (x : List UInt8 × Bool) (h : i ≠ j) : secAt (sec.set i x) j = secAt sec j := by
  unfold secAt
  rw [List.getD_eq_getElem?_getD, List.getD_eq_getElem?_getD, List.getElem?_set_ne h]
theorem done_off : ∀ (l : List (Nat × List UInt8)) (sec : SecL) (j : Nat), (∀ x ∈ l, x.1 ≠ j) → secAt (done sec l) j = secAt sec j
  | [], sec, j, _ => rfl
  | x :: l, sec, j, h => by
    show secAt (done (sec.set x.1 (x.2, false)) l) j = _
    rw [done_off l _ j (fun y hy => h y (List.mem_cons_of_mem _ hy)), secAt_set_ne _ _ _ _ (h x List.mem_cons_self)]
theorem done_app (sec : SecL) (l m : List (Nat × List UInt8)) : done sec (l ++ m) = done (done sec l) m := by unfold done; rw [List.foldl_append]
theorem crashed_len (fates : List Int) : ∀ (l : List (Nat × List UInt8)) (sec : SecL) (k : Nat), (crashed fates sec k l).length = sec.length
  | [], sec, k => rfl
  | x :: l, sec, k => by
    show (crashed fates _ (k + 1) l).length = _
    rw [crashed_len fates l]
    split
    · rw [List.length_set]
    · split
      · rw [List.length_set]
      · rfl
theorem crashed_off (fates : List Int) : ∀ (l : List (Nat × List UInt8)) (sec : SecL) (k j : Nat), (∀ x ∈ l, x.1 ≠ j) → secAt (crashed fates sec k l) j = secAt sec j
  | [], sec, k, j, _ => rfl
  | x :: l, sec, k, j, h => by
    show secAt (crashed fates _ (k + 1) l) j = _
    rw [crashed_off fates l _ _ j (fun y hy => h y (List.mem_cons_of_mem _ hy))]
    split
    · rw [secAt_set_ne _ _ _ _ (h x List.mem_cons_self)]
    · split
      · rw [secAt_set_ne _ _ _ _ (h x List.mem_cons_self)]
      · rfl
/-- Sectors that are whole are of 64 bytes. -/
def GoodS (sec : SecL) : Prop := ∀ i, i < sec.length → (secAt sec i).2 = false → (secAt sec i).1.length = 64
theorem GoodS.set {sec : SecL} (h : GoodS sec) (i : Nat) (x : List UInt8 × Bool) (hx : x.2 = false → x.1.length = 64) : GoodS (sec.set i x) := by
  intro j hj hb
  rw [List.length_set] at hj
  by_cases hi : i = j
  · subst hi
    rw [secAt_set _ _ _ _ hj, if_pos rfl] at hb ⊢
    exact hx hb
  · rw [secAt_set_ne _ _ _ _ hi] at hb ⊢
    exact h j hj hb
theorem GoodS.done : ∀ {l : List (Nat × List UInt8)} {sec : SecL}, GoodS sec → (∀ x ∈ l, x.2.length = 64) → GoodS (done sec l)
  | [], sec, h, _ => h
  | x :: l, sec, h, hl => GoodS.done (l := l) (h.set x.1 (x.2, false) (fun _ => hl x List.mem_cons_self)) (fun y hy => hl y (List.mem_cons_of_mem _ hy))
theorem GoodS.crashed (fates : List Int) : ∀ {l : List (Nat × List UInt8)} {sec : SecL} {k : Nat}, GoodS sec → (∀ x ∈ l, x.2.length = 64) → GoodS (crashed fates sec k l)
  | [], sec, k, h, _ => h
  | x :: l, sec, k, h, hl => by
    show GoodS (Proofs.Ytipkeifpkemcdaa.crashed fates _ (k + 1) l)
    refine GoodS.crashed fates ?_ (fun y hy => hl y (List.mem_cons_of_mem _ hy))
    split
    · exact h.set _ _ (fun _ => hl x List.mem_cons_self)
    · split
      · exact h.set _ _ (fun hb => by cases hb)
      · exact h
/-- The writes of sectors. -/
def wrs (at_ : Nat) (l : List UInt8) (m : Nat) : List (Nat × List UInt8) := (List.range m).map fun k => (at_ + k, chunk l k)
def wkOf (ws : List (Nat × List UInt8)) : List Wk := ws.map fun x => .wr x.1 x.2
theorem secW_eq (at_ : Nat) (l : List UInt8) (m : Nat) : secW at_ l m = wkOf (wrs at_ l m) := by unfold secW wkOf wrs; rw [List.map_map]; rfl
theorem wrs_len (at_ : Nat) (l : List UInt8) (m : Nat) : (wrs at_ l m).length = m := by simp [wrs]
theorem wrs_off {at_ m j : Nat} {l : List UInt8} (h : j < at_ ∨ at_ + m ≤ j) : ∀ x ∈ wrs at_ l m, x.1 ≠ j := fun x hx => by
  obtain ⟨k, hk, rfl⟩ := List.mem_map.1 hx
  have := List.mem_range.1 hk
  show at_ + k ≠ j
  omega
theorem wrs_64 {at_ m : Nat} {l : List UInt8} (h : l.length = 64 * m) : ∀ x ∈ wrs at_ l m, x.2.length = 64 := fun x hx => by
  obtain ⟨k, hk, rfl⟩ := List.mem_map.1 hx
  have := List.mem_range.1 hk
  show (chunk l k).length = 64
  unfold chunk
  rw [List.length_take, List.length_drop, h]
  omega
theorem done_wrs (at_ : Nat) (l : List UInt8) : ∀ (m : Nat) (sec : SecL), at_ + m ≤ sec.length → ∀ i, i < m → secAt (done sec (wrs at_ l m)) (at_ + i) = (chunk l i, false)
  | 0, _, _, i, h => absurd h (Nat.not_lt_zero _)
  | m + 1, sec, hm, i, hi => by
    have e : wrs at_ l (m + 1) = wrs at_ l m ++ [(at_ + m, chunk l m)] := by unfold wrs; rw [List.range_succ, List.map_append]; rfl
    rw [e, done_app]
    show secAt ((done sec (wrs at_ l m)).set (at_ + m) (chunk l m, false)) (at_ + i) = _
    rcases Nat.lt_or_ge i m with h | h
    · rw [secAt_set_ne _ _ _ _ (by omega)]; exact done_wrs at_ l m sec (by omega) i h
    · obtain rfl : i = m := by omega
      rw [secAt_set _ _ _ _ (by rw [done_len]; omega), if_pos rfl]
/-- A disk that is up: what a work makes of it. -/
theorem can_of {s : DSt} (h : s.down = false) (hc : s.can = true) : ∀ x : Wk, (x.go s).down = false := fun x => by
  cases x with
  | wr k d => show (s.write k d).down = false; unfold DSt.write; rw [if_pos hc]; show s.work.down = false; unfold DSt.work; rw [if_pos hc]; exact h
  | fl => show s.flush.down = false; unfold DSt.flush; rw [if_pos hc]; show s.work.down = false; unfold DSt.work; rw [if_pos hc]; exact h
theorem go_wr {s : DSt} (hc : s.can = true) (k : Nat) (d : List UInt8) : ((Wk.wr k d).go s).sec = s.sec ∧ ((Wk.wr k d).go s).pend = s.pend ++ [(k, d)] := by
  show (s.write k d).sec = _ ∧ (s.write k d).pend = _
  unfold DSt.write; rw [if_pos hc]
  exact ⟨s.work_sec.1, rfl⟩
theorem go_fl {s : DSt} (hc : s.can = true) : (Wk.fl.go s).sec = done s.sec s.pend ∧ (Wk.fl.go s).pend = [] := by
  show s.flush.sec = _ ∧ s.flush.pend = _
  unfold DSt.flush; rw [if_pos hc]
  exact ⟨rfl, rfl⟩
theorem go_no {s : DSt} (hc : s.can ≠ true) (x : Wk) : (x.go s).sec = s.sec ∧ (x.go s).pend = s.pend := by
  cases x with
  | wr k d => show (s.write k d).sec = _ ∧ (s.write k d).pend = _; unfold DSt.write; rw [if_neg hc]; exact s.work_sec
  | fl => show s.flush.sec = _ ∧ s.flush.pend = _; unfold DSt.flush; rw [if_neg hc]; exact s.work_sec
theorem run_wr : ∀ (ws : List (Nat × List UInt8)) (rest : List Wk) (s : DSt), s.down = false →
    (∃ j, j ≤ ws.length ∧ (runW (wkOf ws ++ rest) s).2 = false ∧ (runW (wkOf ws ++ rest) s).1.sec = s.sec ∧ (runW (wkOf ws ++ rest) s).1.pend = s.pend ++ ws.take j) ∨
    ∃ s', runW (wkOf ws ++ rest) s = runW rest s' ∧ s'.sec = s.sec ∧ s'.pend = s.pend ++ ws ∧ s'.down = false
  | [], rest, s, h => .inr ⟨s, rfl, rfl, by simp, h⟩
  | x :: ws, rest, s, h => by
    have e : wkOf (x :: ws) ++ rest = .wr x.1 x.2 :: (wkOf ws ++ rest) := rfl
    rw [e, runW_cons]
    by_cases hc : s.can = true
    · rw [if_pos hc]
      obtain ⟨g1, g2⟩ := go_wr hc x.1 x.2
      rcases run_wr ws rest ((Wk.wr x.1 x.2).go s) (can_of h hc _) with ⟨j, h1, h2, h3, h4⟩ | ⟨s', h1, h2, h3, h4⟩
      · refine .inl ⟨j + 1, by simp; omega, h2, h3.trans g1, ?_⟩
        rw [h4, g2]; simp
      · exact .inr ⟨s', h1, h2.trans g1, by rw [h3, g2]; simp, h4⟩
    · rw [if_neg hc]
      obtain ⟨g1, g2⟩ := go_no hc (.wr x.1 x.2)
      exact .inl ⟨0, Nat.zero_le _, rfl, g1, by rw [g2]; simp⟩
theorem run_fl (rest : List Wk) (s : DSt) (h : s.down = false) :
    ((runW (.fl :: rest) s).2 = false ∧ (runW (.fl :: rest) s).1.sec = s.sec ∧ (runW (.fl :: rest) s).1.pend = s.pend) ∨
    ∃ s', runW (.fl :: rest) s = runW rest s' ∧ s'.sec = done s.sec s.pend ∧ s'.pend = [] ∧ s'.down = false := by
  rw [runW_cons]
  by_cases hc : s.can = true
  · rw [if_pos hc]
    obtain ⟨g1, g2⟩ := go_fl hc
    exact .inr ⟨_, rfl, g1, g2, can_of h hc .fl⟩
  · rw [if_neg hc]
    obtain ⟨g1, g2⟩ := go_no hc .fl
    exact .inl ⟨rfl, g1, g2⟩
/-- A sector that holds no head. -/
def NoH (n : Nat) (x : List UInt8 × Bool) : Prop := x.2 = true ∨ ∀ E a u : Nat, E < 18446744073709551616 → a ≤ 1 → u ≤ (n - 2) / 2 → x.1 ≠ headB E a u
/-- The heads of a disk. -/
def Heads (sec : SecL) (E A U : Nat) (AT : Int) : Prop :=
  (AT = -1 ∧ E = 0 ∧ A = 0 ∧ U = 0 ∧ NoH sec.length (secAt sec 0) ∧ NoH sec.length (secAt sec 1)) ∨
  (∃ j o : Nat, AT = (j : Int) ∧ j + o = 1 ∧ secAt sec j = (headB E A U, false) ∧ (NoH sec.length (secAt sec o) ∨ ∃ E' a' u' : Nat, E' < E ∧ a' ≤ 1 ∧ u' ≤ (sec.length - 2) / 2 ∧ secAt sec o = (headB E' a' u', false)))
/-- A disk that holds units, whole. -/
structure Inv (s : DSt) (E A U : Nat) (AT : Int) (us : List (List UInt8)) : Prop where
  up : s.down = false
  pn : s.pend = []
  ln : 8 ≤ s.sec.length ∧ s.sec.length ≤ 4096
  gd : GoodS s.sec
  eb : E < 18446744073709551616
  a1 : A ≤ 1
  sz : sizeAll us = U
  ul : U ≤ (s.sec.length - 2) / 2
  hd : Heads s.sec E A U AT
  dt : ∀ i, i < U → secAt s.sec (2 + A * ((s.sec.length - 2) / 2) + i) = (chunk (layAll us) i, false)
theorem read_at {s : DSt} (hu : s.down = false) (hp : s.pend = []) (i : Nat) (hi : i < s.sec.length) : s.read (i : Int) = if (secAt s.sec i).2 then ([], 8) else ((secAt s.sec i).1, 0) := by
  unfold DSt.read
  rw [if_neg (by omega), hu, hp]
  simp only [Bool.false_eq_true, if_false]
  rw [show lastOf [] (i : Int).toNat = none from rfl]
  rw [Int.toNat_natCast]
  rfl
theorem headAt_iff {s : DSt} (hu : s.down = false) (hp : s.pend = []) (h3 : s.sec.length ≤ 4096) (i : Nat) (hi : i < s.sec.length) {E a u : Nat} (h : secAt s.sec i = (headB E a u, false)) : s.read (i : Int) = (headB E a u, 0) := by
  rw [read_at hu hp i hi, h]; rfl
theorem noHead_of {s : DSt} (hu : s.down = false) (hp : s.pend = []) (i : Nat) (hi : i < s.sec.length) (h : NoH s.sec.length (secAt s.sec i)) : NoHead s i := by
  intro E a u hE ha hu' he
  rw [read_at hu hp i hi] at he
  rcases h with h | h
  · rw [h] at he
    have := congrArg Prod.snd he
    simp at this
  · cases hb : (secAt s.sec i).2 with
    | true => rw [hb] at he; have := congrArg Prod.snd he; simp at this
    | false => rw [hb] at he; exact h E a u hE ha hu' (congrArg Prod.fst he)
theorem headB_inj {E a u E' a' u' : Nat} (hE : E < 18446744073709551616) (ha : a ≤ 1) (hu : u ≤ 4096) (hE' : E' < 18446744073709551616) (ha' : a' ≤ 1) (hu' : u' ≤ 4096) (h : headB E a u = headB E' a' u') : E = E' ∧ a = a' ∧ u = u' := by
  have p1 := headB_parse E a u hE (by omega) (by omega)
  have p2 := headB_parse E' a' u' hE' (by omega) (by omega)
  rw [h] at p1
  have h1 := p1.1; have h2 := p2.1; have h3 := p1.2.1; have h4 := p2.2.1; have h5 := p1.2.2; have h6 := p2.2.2
  omega
/-- Which head counts is told. -/
theorem Inv.uni {s : DSt} {E A U : Nat} {AT : Int} {us : List (List UInt8)} (h : Inv s E A U AT us) : ∀ e a u at_, Best s 2 e a u at_ → e = E ∧ a = A ∧ u = U ∧ at_ = AT := by
  intro e a u at_ hb
  have hln := h.ln
  have HU := fun (i : Nat) (hi : i < 2) {E a u : Nat} (hx : secAt s.sec i = (headB E a u, false)) => headAt_iff h.up h.pn hln.2 i (by omega) hx
  have HN := fun (i : Nat) (hi : i < 2) (hx : NoH s.sec.length (secAt s.sec i)) => noHead_of h.up h.pn i (by omega) hx
  rcases h.hd with ⟨h1, h2, h3, h4, h5, h6⟩ | ⟨j, o, h1, h2, h3, h4⟩
  · rcases hb with ⟨b1, b2, b3, b4, b5⟩ | ⟨k, b1, b2, b3, b4⟩
    · subst h1 h2 h3 h4 b1 b2 b3 b4; exact ⟨rfl, rfl, rfl, rfl⟩
    · exfalso
      have hk : NoHead s k := by
        rcases (show k = 0 ∨ k = 1 by omega) with rfl | rfl
        · exact HN 0 (by omega) h5
        · exact HN 1 (by omega) h6
      exact hk e a u b3.2.1 b3.2.2.1 b3.2.2.2 b3.1
  · have hjr := HU j (by omega) h3
    have hju : U ≤ 4096 := by have := h.ul; omega
    rcases hb with ⟨b1, b2, b3, b4, b5⟩ | ⟨k, b1, b2, b3, b4⟩
    · exact absurd hjr (b5 j (by omega) E A U h.eb h.a1 h.ul)
    · have hku : u ≤ 4096 := by have := b3.2.2.2; omega
      by_cases hkj : k = j
      · subst hkj
        have h5 := headB_inj b3.2.1 b3.2.2.1 hku h.eb h.a1 hju (congrArg Prod.fst (b3.1.symm.trans hjr))
        exact ⟨h5.1, h5.2.1, h5.2.2, by rw [b1, h1]⟩
      · exfalso
        obtain rfl : k = o := by omega
        rcases h4 with h4 | ⟨E', a', u', h4, h5, h6, h7⟩
        · exact HN k (by omega) h4 e a u b3.2.1 b3.2.2.1 b3.2.2.2 b3.1
        · have hkr := HU k (by omega) h7
          have hEb := h.eb
          have h8 := headB_inj b3.2.1 b3.2.2.1 hku (E' := E') (a' := a') (u' := u') (by omega) h5 (by omega) (congrArg Prod.fst (b3.1.symm.trans hkr))
          rcases b4 j (by omega) with b5 | ⟨E2, a2, u2, b5, b6, b7⟩
          · exact b5 E A U h.eb h.a1 h.ul hjr
          · have h9 := headB_inj b5.2.1 b5.2.2.1 (by have := b5.2.2.2; omega) h.eb h.a1 hju (congrArg Prod.fst (b5.1.symm.trans hjr))
            rcases Nat.lt_or_ge j k with h10 | h10
            · have := b6 h10; omega
            · have := b7 (by omega); omega
theorem Inv.len {s : DSt} {E A U : Nat} {AT : Int} {us : List (List UInt8)} (h : Inv s E A U AT us) : ∀ i, i < 2 → (s.read (i : Nat)).2 = 0 → (s.read (i : Nat)).1.length = 64 := by
  intro i hi
  have hln := h.ln
  rw [read_at h.up h.pn i (by omega)]
  cases hb : (secAt s.sec i).2 with
  | true => intro h; simp at h
  | false => intro _; exact h.gd i (by omega) hb
theorem Inv.rd {s : DSt} {E A U : Nat} {AT : Int} {us : List (List UInt8)} (h : Inv s E A U AT us) : ∀ i : Nat, i < U → s.read ((2 + A * ((s.sec.length - 2) / 2) + i : Nat) : Int) = (chunk (layAll us) i, 0) := by
  intro i hi
  have hul := h.ul; have hln := h.ln; have ha := h.a1
  rw [read_at h.up h.pn _ (by rcases (show A = 0 ∨ A = 1 by omega) with rfl | rfl <;> omega), h.dt i hi]
  rfl
theorem Inv.new (n : Nat) (h8 : 8 ≤ n) (hn : n ≤ 4096) : Inv (DSt.new n) 0 0 0 (-1) [] := by
  have hl : (DSt.new n).sec.length = n := by simp [DSt.new]
  have hz : ∀ i, i < n → secAt (DSt.new n).sec i = (zeros, false) := fun i hi => by unfold secAt DSt.new; simp [List.getD_eq_getElem?_getD, hi]
  have hno : ∀ i, i < n → NoH (DSt.new n).sec.length (secAt (DSt.new n).sec i) := fun i hi => .inr fun E a u _ _ _ he => by
    rw [hz i hi] at he
    have := congrArg (fun l => l[0]?) he
    simp [zeros, headB, padB, headX, markB] at this
  exact ⟨rfl, rfl, by rw [hl]; exact ⟨h8, hn⟩, fun i hi _ => by rw [hz i (by omega)]; rfl, by decide, by decide, rfl, Nat.zero_le _, .inl ⟨rfl, rfl, rfl, rfl, hno 0 (by omega), hno 1 (by omega)⟩, fun i hi => absurd hi (Nat.not_lt_zero _)⟩
/-- Only the sectors count, and that it is up. -/
theorem Inv.sec {s s' : DSt} {E A U : Nat} {AT : Int} {us : List (List UInt8)} (h : Inv s E A U AT us) (hs : s'.sec = s.sec) (hp : s'.pend = []) (hd : s'.down = false) : Inv s' E A U AT us :=
  ⟨hd, hp, by rw [hs]; exact h.ln, by rw [hs]; exact h.gd, h.eb, h.a1, h.sz, by rw [hs]; exact h.ul, by rw [hs]; exact h.hd, by rw [hs]; exact h.dt⟩
theorem Inv.crash {s : DSt} {E A U : Nat} {AT : Int} {us : List (List UInt8)} (h : Inv s E A U AT us) (fates : List Int) : Inv (s.crash fates) E A U AT us :=
  h.sec (by show crashed fates s.sec 0 s.pend = _; rw [h.pn]; rfl) rfl rfl
/-- Sectors away from the heads and the units do not count. -/
theorem Inv.other {s : DSt} {E A U : Nat} {AT : Int} {us : List (List UInt8)} (h : Inv s E A U AT us) {s' : DSt} (hp : s'.pend = []) (hd : s'.down = false) (hl : s'.sec.length = s.sec.length) (hg : GoodS s'.sec)
    (h0 : ∀ i, i < 2 → secAt s'.sec i = secAt s.sec i) (hA : ∀ i, i < U → secAt s'.sec (2 + A * ((s.sec.length - 2) / 2) + i) = secAt s.sec (2 + A * ((s.sec.length - 2) / 2) + i)) : Inv s' E A U AT us := by
  refine ⟨hd, hp, by rw [hl]; exact h.ln, hg, h.eb, h.a1, h.sz, by rw [hl]; exact h.ul, ?_, fun i hi => by rw [hl, hA i hi]; exact h.dt i hi⟩
  rcases h.hd with ⟨h1, h2, h3, h4, h5, h6⟩ | ⟨j, o, h1, h2, h3, h4⟩
  · exact .inl ⟨h1, h2, h3, h4, by rw [hl, h0 0 (by omega)]; exact h5, by rw [hl, h0 1 (by omega)]; exact h6⟩
  · exact .inr ⟨j, o, h1, h2, by rw [h0 j (by omega)]; exact h3, by rw [hl, h0 o (by omega)]; exact h4⟩
/-- A head sector is lost. -/
theorem Inv.lost {s : DSt} {E A U : Nat} {AT : Int} {us : List (List UInt8)} (h : Inv s E A U AT us) {s' : DSt} (hp : s'.pend = []) (hd : s'.down = false) (hs : s'.sec = s.sec.set (if AT = 0 then 1 else 0) ([], true)) : Inv s' E A U AT us := by
  have hln := h.ln; have ha := h.a1
  have hl : s'.sec.length = s.sec.length := by rw [hs, List.length_set]
  obtain ⟨t, ht⟩ : ∃ t : Nat, (if AT = 0 then 1 else 0) = t := ⟨_, rfl⟩
  rw [ht] at hs
  have ht1 : t < 2 := by rw [← ht]; split <;> omega
  have hoff : ∀ i, i ≠ t → secAt s'.sec i = secAt s.sec i := fun i hi => by rw [hs]; exact secAt_set_ne _ _ _ _ (fun e => hi e.symm)
  have hon : secAt s'.sec t = ([], true) := by rw [hs, secAt_set _ _ _ _ (by omega), if_pos rfl]
  refine ⟨hd, hp, by rw [hl]; exact h.ln, by rw [hs]; exact h.gd.set _ _ (fun hb => by cases hb), h.eb, h.a1, h.sz, by rw [hl]; exact h.ul, ?_, fun i hi => by rw [hl, hoff _ (by omega)]; exact h.dt i hi⟩
  rcases h.hd with ⟨h1, h2, h3, h4, h5, h6⟩ | ⟨j, o, h1, h2, h3, h4⟩
  · refine .inl ⟨h1, h2, h3, h4, ?_, ?_⟩
    · by_cases h0 : 0 = t
      · rw [h0, hon]; exact .inl rfl
      · rw [hl, hoff 0 h0]; exact h5
    · by_cases h0 : 1 = t
      · rw [h0, hon]; exact .inl rfl
      · rw [hl, hoff 1 h0]; exact h6
  · have hto : t = o := by
      rw [← ht, h1]
      by_cases hj : j = 0
      · subst hj; simp; omega
      · rw [if_neg (by omega)]; omega
    subst hto
    exact .inr ⟨j, t, h1, h2, by rw [hoff j (by omega)]; exact h3, .inl (by rw [hon]; exact .inl rfl)⟩
/-- A head is written. -/
theorem Inv.next {s : DSt} {E A U : Nat} {AT : Int} {us : List (List UInt8)} (h : Inv s E A U AT us) {s' : DSt} {A' U' : Nat} {us' : List (List UInt8)} (hp : s'.pend = []) (hd : s'.down = false) (hs : s'.sec = s.sec.set (if AT = 0 then 1 else 0) (headB (E + 1) A' U', false))
    (hE : E + 1 < 18446744073709551616) (ha : A' ≤ 1) (hz : sizeAll us' = U') (hu : U' ≤ (s.sec.length - 2) / 2) (hdt : ∀ i, i < U' → secAt s.sec (2 + A' * ((s.sec.length - 2) / 2) + i) = (chunk (layAll us') i, false)) :
    Inv s' (E + 1) A' U' ((if AT = 0 then 1 else 0 : Nat) : Int) us' := by
  have hln := h.ln; have ha := h.a1
  have hl : s'.sec.length = s.sec.length := by rw [hs, List.length_set]
  obtain ⟨t, ht⟩ : ∃ t : Nat, (if AT = 0 then 1 else 0) = t := ⟨_, rfl⟩
  rw [ht] at hs ⊢
  have ht1 : t < 2 := by rw [← ht]; split <;> omega
  have hoff : ∀ i, i ≠ t → secAt s'.sec i = secAt s.sec i := fun i hi => by rw [hs]; exact secAt_set_ne _ _ _ _ (fun e => hi e.symm)
  have hon : secAt s'.sec t = (headB (E + 1) A' U', false) := by rw [hs, secAt_set _ _ _ _ (by omega), if_pos rfl]
  refine ⟨hd, hp, by rw [hl]; exact h.ln, by rw [hs]; exact h.gd.set _ _ (fun _ => headB_len _ _ _), hE, by assumption, hz, by rw [hl]; exact hu, ?_, fun i hi => by rw [hl, hoff _ (by omega)]; exact hdt i hi⟩
  rcases h.hd with ⟨h1, h2, h3, h4, h5, h6⟩ | ⟨j, o, h1, h2, h3, h4⟩
  · obtain rfl : t = 0 := by rw [← ht, h1]; rfl
    exact .inr ⟨0, 1, rfl, rfl, hon, .inl (by rw [hl, hoff 1 (by omega)]; exact h6)⟩
  · have hto : t = o := by
      rw [← ht, h1]
      by_cases hj : j = 0
      · subst hj; simp; omega
      · rw [if_neg (by omega)]; omega
    subst hto
    exact .inr ⟨t, j, rfl, by omega, hon, .inr ⟨E, A, U, by omega, h.a1, by rw [hl]; exact h.ul, by rw [hoff j (by omega)]; exact h3⟩⟩
/-- A commit is done, or it falls: then the units are those ahead of it or those behind it. -/
theorem Inv.commit {s : DSt} {E A U : Nat} {AT : Int} {us : List (List UInt8)} (h : Inv s E A U AT us) {A' U' at_ m : Nat} {l : List UInt8} {us' : List (List UInt8)} (hE : E + 1 < 18446744073709551616) (ha : A' ≤ 1) (hz : sizeAll us' = U') (hu : U' ≤ (s.sec.length - 2) / 2)
    (hl : l.length = 64 * m) (h2 : 2 ≤ at_) (hm : at_ + m ≤ s.sec.length) (hoff : 2 + A * ((s.sec.length - 2) / 2) + U ≤ at_ ∨ at_ + m ≤ 2 + A * ((s.sec.length - 2) / 2))
    (hdt : ∀ i, i < U' → secAt (done s.sec (wrs at_ l m)) (2 + A' * ((s.sec.length - 2) / 2) + i) = (chunk (layAll us') i, false)) {R : DSt × Bool} (hR : runW (comW at_ l m (if AT = 0 then 1 else 0) (headB (E + 1) A' U')) s = R) :
    (R.2 = true → Inv R.1 (E + 1) A' U' ((if AT = 0 then 1 else 0 : Nat) : Int) us') ∧
    (R.2 = false → ∀ fates, Inv (R.1.crash fates) E A U AT us ∨ Inv (R.1.crash fates) (E + 1) A' U' ((if AT = 0 then 1 else 0 : Nat) : Int) us') := by
  obtain ⟨t, ht⟩ : ∃ t : Nat, t = (if AT = 0 then 1 else 0) := ⟨_, rfl⟩
  obtain ⟨W, hW⟩ : ∃ W, W = wrs at_ l m := ⟨_, rfl⟩
  have hW64 : ∀ x ∈ W, x.2.length = 64 := by rw [hW]; exact wrs_64 hl
  have hWh : ∀ i, i < 2 → ∀ x ∈ W, x.1 ≠ i := fun i hi => by rw [hW]; exact wrs_off (.inl (by omega))
  have hWd : ∀ i, i < U → ∀ x ∈ W, x.1 ≠ 2 + A * ((s.sec.length - 2) / 2) + i := fun i hi => by
    rw [hW]; exact wrs_off (by omega)
  rw [← hW] at hdt
  -- what is lost or done of the first writes does not count
  have old : ∀ (s' : DSt) (V : List (Nat × List UInt8)), (∀ x ∈ V, x ∈ W) → s'.sec = s.sec → s'.pend = V → ∀ fates, Inv (s'.crash fates) E A U AT us := fun s' V hV h1 h2 fates => by
    refine h.other rfl rfl ?_ ?_ ?_ ?_
    · show (crashed fates s'.sec 0 s'.pend).length = _; rw [crashed_len, h1]
    · show GoodS (crashed fates s'.sec 0 s'.pend); rw [h1, h2]; exact h.gd.crashed fates (fun x hx => hW64 x (hV x hx))
    · intro i hi; show secAt (crashed fates s'.sec 0 s'.pend) i = _; rw [h1, h2]; exact crashed_off fates _ _ _ _ (fun x hx => hWh i hi x (hV x hx))
    · intro i hi; show secAt (crashed fates s'.sec 0 s'.pend) _ = _; rw [h1, h2]; exact crashed_off fates _ _ _ _ (fun x hx => hWd i hi x (hV x hx))
  have hc : comW at_ l m t (headB (E + 1) A' U') = wkOf W ++ (.fl :: (wkOf [(t, headB (E + 1) A' U')] ++ [.fl])) := by
    unfold comW
    rw [secW_eq, secW_eq, ← hW]
    have : wrs t (headB (E + 1) A' U') 1 = [(t, headB (E + 1) A' U')] := by
      unfold wrs chunk
      simp only [List.range_one, List.map_cons, List.map_nil, Nat.mul_zero, List.drop_zero, Nat.add_zero]
      rw [List.take_of_length_le (by rw [headB_len]; exact Nat.le_refl _)]
    rw [this]
    simp
  rw [← ht, hc] at hR
  rw [← ht]
  rcases run_wr W (.fl :: (wkOf [(t, headB (E + 1) A' U')] ++ [.fl])) s h.up with ⟨j, r1, r2, r3, r4⟩ | ⟨s1, r1, r2, r3, r4⟩
  · rw [hR] at r2 r3 r4
    rw [h.pn, List.nil_append] at r4
    exact ⟨(fun hx => by rw [r2] at hx; cases hx), fun _ fates => .inl (old R.1 _ (fun x hx => List.mem_of_mem_take hx) r3 r4 fates)⟩
  rw [h.pn, List.nil_append] at r3
  rw [r1] at hR
  rcases run_fl (wkOf [(t, headB (E + 1) A' U')] ++ [.fl]) s1 r4 with ⟨q1, q2, q3⟩ | ⟨s2, q1, q2, q3, q4⟩
  · rw [hR] at q1 q2 q3
    exact ⟨(fun hx => by rw [q1] at hx; cases hx), fun _ fates => .inl (old R.1 W (fun x hx => hx) (q2.trans r2) (q3.trans r3) fates)⟩
  rw [q1] at hR
  rw [r2, r3] at q2
  -- the units are written
  have hln2 : s2.sec.length = s.sec.length := by rw [q2, done_len]
  have hs2 : Inv s2 E A U AT us := h.other q3 q4 hln2 (by rw [q2]; exact h.gd.done hW64) (fun i hi => by rw [q2]; exact done_off _ _ _ (hWh i hi)) (fun i hi => by rw [q2]; exact done_off _ _ _ (hWd i hi))
  have hdt2 : ∀ i, i < U' → secAt s2.sec (2 + A' * ((s2.sec.length - 2) / 2) + i) = (chunk (layAll us') i, false) := fun i hi => by rw [hln2, q2]; exact hdt i hi
  rcases run_wr [(t, headB (E + 1) A' U')] [.fl] s2 q4 with ⟨j, p1, p2, p3, p4⟩ | ⟨s3, p1, p2, p3, p4⟩
  · rw [hR] at p2 p3 p4
    refine ⟨(fun hx => by rw [p2] at hx; cases hx), fun _ fates => ?_⟩
    rw [q3, List.nil_append] at p4
    have hcases : R.1.pend = [] ∨ R.1.pend = [(t, headB (E + 1) A' U')] := by
      rw [p4]
      rcases (show j = 0 ∨ j = 1 by simp at p1; omega) with rfl | rfl
      · exact .inl rfl
      · exact .inr rfl
    rcases hcases with hc0 | hc1
    · exact .inl ((hs2.sec (s' := { R.1 with down := false }) p3 hc0 rfl).crash fates |>.sec rfl rfl rfl)
    · have hcr : (R.1.crash fates).sec = if fateOf fates 0 = 0 then s2.sec.set t (headB (E + 1) A' U', false) else if fateOf fates 0 = 2 then s2.sec.set t ([], true) else s2.sec := by
        show crashed fates R.1.sec 0 R.1.pend = _; rw [hc1, p3]; rfl
      rw [ht]
      split at hcr
      · exact .inr (hs2.next rfl rfl (by rw [hcr, ht]) hE ha hz (by rw [hln2]; exact hu) hdt2)
      · split at hcr
        · exact .inl (hs2.lost rfl rfl (by rw [hcr, ht]))
        · exact .inl (hs2.sec hcr rfl rfl)
  rw [p1] at hR
  rw [q3, List.nil_append] at p3
  rcases run_fl [] s3 p4 with ⟨o1, o2, o3⟩ | ⟨s4, o1, o2, o3, o4⟩
  · rw [hR] at o1 o2 o3
    refine ⟨(fun hx => by rw [o1] at hx; cases hx), fun _ fates => ?_⟩
    have hcr : (R.1.crash fates).sec = if fateOf fates 0 = 0 then s2.sec.set t (headB (E + 1) A' U', false) else if fateOf fates 0 = 2 then s2.sec.set t ([], true) else s2.sec := by
      show crashed fates R.1.sec 0 R.1.pend = _; rw [o3, p3, o2, p2]; rfl
    rw [ht]
    split at hcr
    · exact .inr (hs2.next rfl rfl (by rw [hcr, ht]) hE ha hz (by rw [hln2]; exact hu) hdt2)
    · split at hcr
      · exact .inl (hs2.lost rfl rfl (by rw [hcr, ht]))
      · exact .inl (hs2.sec hcr rfl rfl)
  rw [o1] at hR
  have hR4 : R = (s4, true) := hR.symm
  subst hR4
  refine ⟨fun _ => ?_, fun hx => by cases hx⟩
  rw [ht]
  refine hs2.next o3 o4 ?_ hE ha hz (by rw [hln2]; exact hu) hdt2
  rw [o2, p2, p3, ← ht]; rfl
end Go.Proofs.Ytipkeifpkemcdaa
