/- Several texts in one. -/
import Derived.Test.YteenglgnakenmaaDoorRespOf
import Derived.Laws.Closers25b
import Derived.Test.YteenglgnakenmaaDoorTtlL
namespace Go.Proofs.YteenglgnakenmaaDoor
open Go.RowKit
set_option linter.unusedVariables false
set_option linter.unusedSimpArgs false
set_option maxRecDepth 100000
set_option maxHeartbeats 3200000
theorem msg_back (m : ByteArray) : (⟨m.data.toList.toArray⟩ : ByteArray) = m := by cases m; simp
theorem msg_empty {m : ByteArray} (h : m.toList = []) : m = ⟨#[]⟩ := toList_nil_iff_emptyBytes m |>.1 h
/-- One item's rows. -/
theorem itemRows (o i r m p : List Itm) (s : Itm) (ho : o = [] ∨ ∃ n, o = [numI 4325468 5 n]) (hi : i = [] ∨ ∃ l, i = [⟨4325523, 8, 0, l, []⟩]) (hs : ∃ n, s = numI 4325503 5 n) (hr : r = [] ∨ ∃ n, r = [numI 4325502 5 n]) (hm : m = [] ∨ ∃ l, m = [⟨4325501, 7, 0, l, []⟩]) (hp : p = [] ∨ ∃ k, p = [⟨4325500, 1, 0, [], k⟩]) :
    parseV rItemF (ofI 4325391 (o ++ i ++ [s] ++ r ++ m ++ p)) = .ok [o, i, [s], r, m, p] := by
  obtain ⟨s, rfl⟩ := hs
  rcases ho with rfl | ⟨o, rfl⟩ <;> rcases hi with rfl | ⟨i, rfl⟩ <;> rcases hr with rfl | ⟨r, rfl⟩ <;> rcases hm with rfl | ⟨m, rfl⟩ <;> rcases hp with rfl | ⟨p, rfl⟩ <;> rfl
theorem readRsI_lay {x : RsI} (h : GoodI x) : readRsI (layRsI x) = .ok x := by
  obtain ⟨op, ho, hi, id, st, rs, msg, pay, hp⟩ := x
  have h1 := h.oh; have h2 := h.ih; have h3 := h.pa
  simp only at h1 h2 h3
  have e := itemRows (if ho then [numI 4325468 5 op] else []) (if hi then [{ tag := 4325523, typ := 8, data := id }] else []) (if rs ≠ 0 then [numI 4325502 5 rs] else []) (if msg.toList ≠ [] then [{ tag := 4325501, typ := 7, data := msg.data.toList }] else []) (if hp then [pay] else []) (numI 4325503 5 st)
    (by cases ho; exact .inl rfl; exact .inr ⟨_, rfl⟩) (by cases hi; exact .inl rfl; exact .inr ⟨_, rfl⟩) ⟨_, rfl⟩ (by
      by_cases h : rs = 0
      · exact .inl (if_neg (fun h' => h' h))
      · exact .inr ⟨_, if_pos h⟩) (by
      by_cases h : msg.toList = []
      · exact .inl (if_neg (fun h' => h' h))
      · exact .inr ⟨_, if_pos h⟩) (by
      rcases h3 with ⟨rfl, rfl⟩ | ⟨rfl, n, _, _, rfl⟩
      · exact .inl rfl
      · exact .inr ⟨_, rfl⟩)
  unfold readRsI layRsI rsKids
  rw [e]
  simp only [List.getD_cons_zero, List.getD_cons_succ]
  have e0 : numV (if ho = true then [numI 4325468 5 op] else []) 0 = op := by cases ho <;> simp [numV, numI, h1]
  have e1 : (!(if ho = true then [numI 4325468 5 op] else ([] : List Itm)).isEmpty) = ho := by cases ho <;> rfl
  have e2 : (!(if hi = true then [({ tag := 4325523, typ := 8, data := id } : Itm)] else []).isEmpty) = hi := by cases hi <;> rfl
  have e3 : (firstI (if hi = true then [({ tag := 4325523, typ := 8, data := id } : Itm)] else [])).data = id := by cases hi <;> simp [firstI, h2]
  have e4 : numV (if rs ≠ 0 then [numI 4325502 5 rs] else []) 0 = rs := by by_cases h : rs = 0 <;> simp [h, numV, numI]
  have e5 : (⟨(firstI (if msg.toList ≠ [] then [({ tag := 4325501, typ := 7, data := msg.data.toList } : Itm)] else [])).data.toArray⟩ : ByteArray) = msg := by
    by_cases h : msg.toList = []
    · rw [if_neg (by simp [h]), msg_empty h]; rfl
    · rw [if_pos h]; exact msg_back msg
  have e6 : firstI (if hp = true then [pay] else []) = pay ∧ (!(if hp = true then [pay] else []).isEmpty) = hp := by
    rcases h3 with ⟨rfl, rfl⟩ | ⟨rfl, n, _, _, rfl⟩ <;> exact ⟨rfl, rfl⟩
  rw [e0, e1, e2, e3, e4, e5, e6.1, e6.2]
  rfl
theorem readRsIs_lay : ∀ (l : List RsI), (∀ x ∈ l, GoodI x) → readRsIs (l.map layRsI) = .ok l
  | [], _ => rfl
  | x :: l, h => by
    rw [List.map_cons, readRsIs, readRsI_lay (h x List.mem_cons_self), readRsIs_lay l (fun y hy => h y (List.mem_cons_of_mem _ hy))]
theorem msg_step (hd : Itm) (acc : List Itm) (n : Int) (d : List UInt8) (ks : List Itm) : parseStep rMsgF (1, [[hd], acc]) ⟨4325391, 1, n, d, ks⟩ = .ok (1, [[hd], acc ++ [⟨4325391, 1, n, d, ks⟩]]) := by
  unfold parseStep
  rw [show placeN rMsgF (1, [[hd], acc]).1 (⟨4325391, 1, n, d, ks⟩ : Itm).tag = some 1 from rfl]
  dsimp only
  rw [if_neg (fun h => absurd h.2 (by decide)), if_neg (by decide)]
  rfl
theorem msg_many : ∀ (l : List Itm) (hd : Itm) (acc : List Itm), (∀ x ∈ l, x.tag = 4325391 ∧ x.typ = 1) → l.foldlM (parseStep rMsgF) (1, [[hd], acc]) = .ok (1, [[hd], acc ++ l])
  | [], hd, acc, _ => by simp; rfl
  | x :: l, hd, acc, h => by
    have h1 := h x List.mem_cons_self
    obtain ⟨t, k, n, d, ks⟩ := x
    obtain ⟨rfl, rfl⟩ := h1
    rw [List.foldlM_cons]
    have e : parseStep rMsgF (1, [[hd], acc]) ⟨4325391, 1, n, d, ks⟩ = .ok (1, [[hd], acc ++ [⟨4325391, 1, n, d, ks⟩]]) := msg_step _ _ _ _ _
    rw [e]
    have := msg_many l hd (acc ++ [⟨4325391, 1, n, d, ks⟩]) (fun y hy => h y (List.mem_cons_of_mem _ hy))
    rw [List.append_assoc] at this
    exact this
theorem msgRows (ks : List Itm) (l : List Itm) (h : ∀ x ∈ l, x.tag = 4325391 ∧ x.typ = 1) : parseV rMsgF (ofI 4325499 (ofI 4325498 ks :: l)) = .ok [[ofI 4325498 ks], l] := by
  have e : ∃ k, parseKids rMsgF (ofI 4325498 ks :: l) = .ok (k, [[ofI 4325498 ks], l]) := by
    unfold parseKids
    rw [List.foldlM_cons]
    have e0 : parseStep rMsgF (0, List.replicate rMsgF.length []) (ofI 4325498 ks) = .ok (0, [[ofI 4325498 ks], []]) := rfl
    rw [e0]
    cases l with
    | nil => exact ⟨0, rfl⟩
    | cons x l =>
      have h1 := h x List.mem_cons_self
      obtain ⟨t, k, n, d, kk⟩ := x
      obtain ⟨rfl, rfl⟩ := h1
      refine ⟨1, ?_⟩
      have e : parseStep rMsgF (0, [[ofI 4325498 ks], []]) ⟨4325391, 1, n, d, kk⟩ = .ok (1, [[ofI 4325498 ks], [⟨4325391, 1, n, d, kk⟩]]) := rfl
      have e2 := msg_many l (ofI 4325498 ks) [⟨4325391, 1, n, d, kk⟩] (fun y hy => h y (List.mem_cons_of_mem _ hy))
      have e3 : (Except.ok (0, [[ofI 4325498 ks], []]) >>= fun init => List.foldlM (parseStep rMsgF) init ((⟨4325391, 1, n, d, kk⟩ : Itm) :: l)) = List.foldlM (parseStep rMsgF) (0, [[ofI 4325498 ks], []]) ((⟨4325391, 1, n, d, kk⟩ : Itm) :: l) := rfl
      rw [e3, List.foldlM_cons, e]
      exact e2
  obtain ⟨k, e⟩ := e
  rw [parse_ok rfl e]
  rfl
theorem readRs_lay {q : Rs} (h : ∀ x ∈ q.items, GoodI x) : readRs (layRs q) = .ok q := by
  obtain ⟨t, l⟩ := q
  have hm := msgRows [ofI 4325481 [numI 4325482 2 1, numI 4325483 2 4], numI 4325522 9 t, numI 4325389 2 (l.length : Int)] (l.map layRsI) (fun x hx => by
    obtain ⟨y, _, rfl⟩ := List.mem_map.1 hx
    exact ⟨rfl, rfl⟩)
  have hh : parseV rHeadF (ofI 4325498 [ofI 4325481 [numI 4325482 2 1, numI 4325483 2 4], numI 4325522 9 t, numI 4325389 2 (l.length : Int)]) = .ok [[ofI 4325481 [numI 4325482 2 1, numI 4325483 2 4]], [numI 4325522 9 t], [numI 4325389 2 (l.length : Int)]] := rfl
  have hv : parseV rVerF (ofI 4325481 [numI 4325482 2 1, numI 4325483 2 4]) = .ok [[numI 4325482 2 1], [numI 4325483 2 4]] := rfl
  have hl := readRsIs_lay l h
  unfold readRs layRs layRsHead
  rw [if_neg (by simp [ofI]), hm]
  simp only [List.getD_cons_zero, List.getD_cons_succ, firstI, List.headD_cons]
  rw [hh]
  simp only [List.getD_cons_zero, List.getD_cons_succ, List.headD_cons]
  rw [hv]
  simp only [List.getD_cons_zero, List.getD_cons_succ]
  rw [hl]
  simp [numV, numI]
end Go.Proofs.YteenglgnakenmaaDoor
namespace Go.Proofs.YteenglgnakenmaaDoor
open Go.RowKit
set_option linter.unusedVariables false
set_option linter.unusedSimpArgs false
set_option maxRecDepth 100000
set_option maxHeartbeats 3200000
/-- Items that may stand there: at most n of them in all, at most s bytes. -/
structure OKL (f : Nat) (l : List Itm) (n s : Nat) : Prop where
  walk : ∀ c, c + n ≤ 600 → ∃ c', walkL (walkP f) l c = some c' ∧ c' ≤ c + n
  size : ∀ g n0, l.foldl (fun n k => min (n + sizeF g k) 2147483648) n0 ≤ n0 + s
  fit : ∀ x ∈ l, x.fit
section
variable {f n s n' s' : Nat} {l l' : List Itm}
theorem OKL.nil (f : Nat) : OKL f [] 0 0 := ⟨fun c _ => ⟨c, rfl, Nat.le_refl _⟩, fun _ _ => Nat.le_refl _, fun x hx => by cases hx⟩
theorem walkL_app (one : Itm → Nat → Option Nat) : ∀ (l l' : List Itm) (c c' : Nat), walkL one l c = some c' → walkL one (l ++ l') c = walkL one l' c'
  | [], l', c, c', h => by simp only [walkL, Option.some.injEq] at h; rw [h]; rfl
  | x :: l, l', c, c', h => by
    rw [List.cons_append, walkL]
    rw [walkL] at h
    cases h2 : one x c with
    | none => rw [h2] at h; cases h
    | some d => rw [h2] at h; exact walkL_app one l l' d c' h
theorem OKL.app (h : OKL f l n s) (h' : OKL f l' n' s') : OKL f (l ++ l') (n + n') (s + s') := by
  refine ⟨fun c hc => ?_, fun g n0 => ?_, fun x hx => ?_⟩
  · obtain ⟨c1, e1, h1⟩ := h.walk c (by omega)
    obtain ⟨c2, e2, h2⟩ := h'.walk c1 (by omega)
    exact ⟨c2, by rw [walkL_app _ _ _ _ _ e1, e2], by omega⟩
  · rw [List.foldl_append]
    have h1 := h.size g n0
    have h2 := h'.size g (l.foldl (fun n k => min (n + sizeF g k) 2147483648) n0)
    omega
  · rcases List.mem_append.1 hx with h1 | h1
    · exact h.fit x h1
    · exact h'.fit x h1
theorem OKL.mono (h : OKL f l n s) (hn : n ≤ n') (hs : s ≤ s') : OKL f l n' s' :=
  ⟨fun c hc => let ⟨c', e, h1⟩ := h.walk c (by omega); ⟨c', e, by omega⟩, fun g n0 => Nat.le_trans (h.size g n0) (by omega), h.fit⟩
/-- One that has no kids. -/
theorem OKL.leaf {i : Itm} (hk : i.kids = []) (hp : i.plain = true) (hi : -9223372036854775808 ≤ i.int ∧ i.int < 9223372036854775808) (ht : i.typ ≠ 1) (hs : ∀ g, sizeF (g + 1) i ≤ s) : OKL (f + 1) [i] 1 s := by
  refine ⟨fun c hc => ⟨c + 1, ?_, Nat.le_refl _⟩, fun g n0 => ?_, fun x hx => ?_⟩
  · rw [walkL, walkP, if_pos ⟨hc, hp⟩, hk]
    rfl
  · simp only [List.foldl_cons, List.foldl_nil]
    cases g with
    | zero => rw [sizeF]; omega
    | succ g => have := hs g; omega
  · rw [List.mem_singleton.1 hx]
    exact (fit_iff i).2 ⟨hi, fun y hy => by rw [hk] at hy; cases hy⟩
/-- One that has. -/
theorem OKL.node (t : Int) (ht : tagB t = true) (h : OKL f l n s) : OKL (f + 1) [ofI t l] (n + 1) (s + 8) := by
  refine ⟨fun c hc => ?_, fun g n0 => ?_, fun x hx => ?_⟩
  · have hp : (ofI t l).plain = true := by
      show plainP t 1 0 [] l.length = true
      unfold plainP
      rw [ht]
      rfl
    obtain ⟨c', e, h1⟩ := h.walk (c + 1) (by omega)
    refine ⟨c', ?_, by omega⟩
    rw [walkL, walkP, if_pos ⟨by omega, hp⟩]
    show (match walkL (walkP f) l (c + 1) with | none => none | some c' => walkL (walkP (f + 1)) [] c') = _
    rw [e]
    rfl
  · simp only [List.foldl_cons, List.foldl_nil]
    cases g with
    | zero => rw [sizeF]; omega
    | succ g =>
      have h1 := h.size g 8
      have h2 : sizeF (g + 1) (ofI t l) = l.foldl (fun n k => min (n + sizeF g k) 2147483648) 8 := sizeF_k rfl
      rw [h2]
      omega
  · rw [List.mem_singleton.1 hx]
    exact (fit_iff _).2 ⟨by show (-9223372036854775808 : Int) ≤ 0 ∧ (0 : Int) < _; decide, h.fit⟩
theorem OKL.num (t k z : Int) (ht : tagB t = true) (hk : k = 2 ∨ k = 5 ∨ k = 9) (hz : numB k z = true) (hi : -9223372036854775808 ≤ z ∧ z < 9223372036854775808) : OKL (f + 1) [numI t k z] 1 16 := by
  refine OKL.leaf rfl ?_ hi ?_ (fun g => ?_)
  · show plainP t k z [] 0 = true
    unfold plainP
    rw [ht, hz]
    rcases hk with rfl | rfl | rfl <;> rfl
  · show k ≠ 1
    omega
  · have h1 : sizeF (g + 1) (numI t k z) = 16 := sizeF_o (by show k ≠ 1; omega) (by show isD k = false; rcases hk with rfl | rfl | rfl <;> rfl)
    omega
theorem OKL.data (t k : Int) (d : List UInt8) (ht : tagB t = true) (hk : k = 7 ∨ k = 8) (hd : datB k d = true) (hs : d.length ≤ 56) : OKL (f + 1) [⟨t, k, 0, d, []⟩] 1 64 := by
  refine OKL.leaf rfl ?_ (by show (-9223372036854775808 : Int) ≤ 0 ∧ (0 : Int) < _; decide) ?_ (fun g => ?_)
  · show plainP t k 0 d 0 = true
    unfold plainP
    rw [ht, hd]
    rcases hk with rfl | rfl <;> simp [isD, numB]
  · show k ≠ 1
    omega
  · have h1 : sizeF (g + 1) (⟨t, k, 0, d, []⟩ : Itm) = min (8 + up8 d.length) 2147483648 := sizeF_d (by show k ≠ 1; omega) (by show isD k = true; rcases hk with rfl | rfl <;> rfl)
    have h2 := up8_ge d.length
    rw [h1]
    unfold up8
    omega
theorem OKL.opt {b : Prop} [Decidable b] (h : b → OKL f l n s) : OKL f (if b then l else []) n s := by
  split
  · rename_i hb; exact h hb
  · exact (OKL.nil f).mono (Nat.zero_le _) (Nat.zero_le _)
end
theorem numB2 {z : Int} (a : -2147483648 ≤ z) (b : z < 2147483648) : numB 2 z = true := by
  unfold numB
  rw [if_pos rfl]
  simp only [Bool.and_eq_true, decide_eq_true_eq]
  exact ⟨a, b⟩
theorem okl_item {x : RsI} (h : GoodI x) : OKL 11 [layRsI x] 8 232 := by
  obtain ⟨op, ho, hi, id, st, rs, msg, pay, hp⟩ := x
  have h1 := h.op; have h2 := h.st; have h3 := h.rs; have h4 := h.il; have h5 := h.ms; have h6 := h.mv; have h7 := h.pa
  simp only at h1 h2 h3 h4 h5 h6 h7
  have hn5 : ∀ z : Int, 0 ≤ z → z ≤ 256 → numB 5 z = true := fun z a b => by unfold numB; rw [if_neg (by decide), if_pos (.inl rfl)]; simp only [Bool.and_eq_true, decide_eq_true_eq]; omega
  have e : OKL 10 (rsKids ⟨op, ho, hi, id, st, rs, msg, pay, hp⟩ ++ (if hp = true then [pay] else [])) (1 + 1 + 1 + 1 + 1 + 2) (16 + 64 + 16 + 16 + 64 + 24) := by
    unfold rsKids
    dsimp only
    refine OKL.app (OKL.app (OKL.app (OKL.app (OKL.app ?_ ?_) ?_) ?_) ?_) ?_
    · exact OKL.opt fun _ => OKL.num _ _ _ rfl (.inr (.inl rfl)) (hn5 _ (by omega) (by omega)) (by omega)
    · exact OKL.opt fun _ => OKL.data _ _ _ rfl (.inr rfl) rfl (by omega)
    · exact OKL.num _ _ _ rfl (.inr (.inl rfl)) (hn5 _ (by omega) (by omega)) (by omega)
    · exact OKL.opt fun _ => OKL.num _ _ _ rfl (.inr (.inl rfl)) (hn5 _ (by omega) (by omega)) (by omega)
    · exact OKL.opt fun _ => OKL.data _ _ _ rfl (.inl rfl) (by show datB 7 msg.data.toList = true; unfold datB; rw [if_neg (by decide), if_pos rfl]; exact h6) (by rw [show msg.data.toList.length = msg.size from Array.length_toList]; omega)
    · rcases h7 with ⟨rfl, rfl⟩ | ⟨rfl, n, a, b, rfl⟩
      · exact (OKL.nil _).mono (Nat.zero_le _) (Nat.zero_le _)
      · rw [if_pos rfl]
        exact OKL.node (f := 9) 4325500 rfl (OKL.num (f := 8) 4325384 2 n rfl (.inl rfl) (numB2 a b) (by omega))
  exact (OKL.node 4325391 rfl e).mono (by decide) (by decide)
theorem okl_items : ∀ (l : List RsI), (∀ x ∈ l, GoodI x) → OKL 11 (l.map layRsI) (8 * l.length) (232 * l.length)
  | [], _ => OKL.nil _
  | x :: l, h => by
    have h1 := okl_item (h x List.mem_cons_self)
    have h2 := okl_items l (fun y hy => h y (List.mem_cons_of_mem _ hy))
    have h3 := h1.app h2
    rw [List.map_cons, List.length_cons]
    exact h3.mono (by omega) (by omega)
theorem okl_resp {q : Rs} (h : ∀ x ∈ q.items, GoodI x) (hl : q.items.length ≤ 8) (ht : -9223372036854775808 ≤ q.time ∧ q.time < 9223372036854775808) : OKL 12 [layRs q] 72 2000 := by
  obtain ⟨t, l⟩ := q
  have h1 := okl_items l h
  simp only at hl ht
  have hd : OKL 11 [layRsHead t (l.length : Int)] 6 100 := by
    have hv : OKL 10 [ofI 4325481 [numI 4325482 2 1, numI 4325483 2 4]] 3 40 :=
      OKL.node (f := 9) _ rfl (OKL.app (l := [numI 4325482 2 1]) (OKL.num (f := 8) _ _ _ rfl (.inl rfl) rfl (by decide)) (OKL.num (f := 8) _ _ _ rfl (.inl rfl) rfl (by decide)))
    have hw := OKL.app hv (OKL.app (l := [numI 4325522 9 t]) (OKL.num (f := 9) 4325522 9 t rfl (.inr (.inr rfl)) rfl ht) (OKL.num (f := 9) 4325389 2 (l.length : Int) rfl (.inl rfl) (numB2 (by omega) (by omega)) (by omega)))
    exact (OKL.node (f := 10) 4325498 rfl hw).mono (by decide) (by decide)
  have := OKL.node (f := 11) 4325499 rfl (hd.app h1)
  exact this.mono (by omega) (by omega)
theorem resp_right {q : Rs} (h : ∀ x ∈ q.items, GoodI x) (hl : q.items.length ≤ 8) (ht : -9223372036854775808 ≤ q.time ∧ q.time < 9223372036854775808) : rightI (layRs q) = true ∧ (layRs q).fit := by
  have hk := okl_resp h hl ht
  refine ⟨?_, hk.fit _ (List.mem_singleton.2 rfl)⟩
  obtain ⟨c', e, -⟩ := hk.walk 0 (by decide)
  have h2 := hk.size 100 0
  simp only [List.foldl_cons, List.foldl_nil] at h2
  unfold rightI
  have h3 : (walkP 12 (layRs q) 0).isSome = true := by
    rw [walkL] at e
    cases h4 : walkP 12 (layRs q) 0 with
    | none => rw [h4] at e; cases e
    | some d => rfl
  rw [h3, decide_eq_true (show sizeF 100 (layRs q) ≤ 8192 by omega)]
  rfl
end Go.Proofs.YteenglgnakenmaaDoor
