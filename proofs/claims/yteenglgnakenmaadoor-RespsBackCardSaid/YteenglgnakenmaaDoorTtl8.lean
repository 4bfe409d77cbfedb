/- ttlv's reader: item; Decode. -/
import Derived.Test.YteenglgnakenmaaDoorTtlN
namespace Go.Proofs.YteenglgnakenmaaDoor
open Go.RowKit
set_option linter.unusedVariables false
set_option linter.unusedSimpArgs false
set_option maxRecDepth 100000
set_option maxHeartbeats 3200000
theorem results_cell_tmp2 {P : Program} {fn : Func} {p q r : Tmp} {ty : TypeId} (h : fn.results = #[.cell p ty, .tmp q, .tmp r]) (tmps : Array Value) (w : World) (g : Nat) (t : TypeId) (cs : Array Value) (fr : Nat × Nat) (d : TypeDesc)
    (hp : tmps.getD p undef = .pointer (some ⟨g, 0, none⟩)) (hg : w.heap[g]? = some (.cells cs t fr))
    (hu : P.underlying ty = some d) (hd : (match d with | .struct _ | .array _ _ => true | _ => false) = true) (hi : (P.info? ty).map (·.size) = some cs.size) (v u : Value) (hv : tmps.getD q undef = v) (hu2 : tmps.getD r undef = u) :
    (results fn tmps).run P w = .ok (.tuple #[.agg cs, v, u]) w := by
  have hp' : tmps[p]?.getD undef = .pointer (some ⟨g, 0, none⟩) := by simpa using hp
  have hv' : tmps[q]?.getD undef = v := by simpa using hv
  have hu' : tmps[r]?.getD undef = u := by simpa using hu2
  simp [results, h, hp', hv', hu', asAddr, run_loadVar_row w g t ty cs fr d hg hu hd hi]
/-- A function value is called. -/
theorem wp_call_val {P : Program} {o : Oper} {a : Act} {w : World} {K : Act → World → Prop} {Q : Exit → Act → World → Prop} (x : Operand) (xs : Array Operand) (ats : Array TypeId)
    (ho : o.op = .call { callee := .value x, args := xs, argTypes := ats }) (fn : FuncId) (first cap : Array Value) (hx : a.eval x = .func (.func fn) first cap) (hcf : ∀ (args : Array Value) (W : World), (callFunc fn args).run P W = .ok (.enter fn args) W)
    (args : Array Value) (hargs : first ++ xs.map a.eval ++ cap = args)
    (h : Calls P fn args w fun | .returned v, w'' => K (a.put o.dst v) w'' | .panicked c, w'' => Q (.panic c) a w'' | .outgrown, _ => LetsOut Q) : o.wp P a w K Q := by
  have e : (execOp a.eval o).run P w = .ok (.enter fn args) w := by
    unfold execOp
    simp only [ho, resolve, hx, Deferred.ofValue, invoke, Sem.run_bind, Sem.run_pure, Result.andThen_ok, hcf, hargs]
  unfold Oper.wp
  rw [e]
  exact h
theorem wpList_call_val {P : Program} {ops : Array Oper} {rest : List Oper} {o : Oper} {a : Act} {w : World} {Q : Exit → Act → World → Prop} (hg : o.guard = none) (x : Operand) (xs : Array Operand) (ats : Array TypeId)
    (ho : o.op = .call { callee := .value x, args := xs, argTypes := ats }) (fn : FuncId) (first cap : Array Value) (hx : a.eval x = .func (.func fn) first cap) (hcf : ∀ (args : Array Value) (W : World), (callFunc fn args).run P W = .ok (.enter fn args) W)
    (args : Array Value) (hargs : first ++ xs.map a.eval ++ cap = args)
    (h : Calls P fn args w fun | .returned v, w'' => wpList P ops Q rest (a.put o.dst v) w'' | .panicked c, w'' => Q (.panic c) a w'' | .outgrown, _ => LetsOut Q) : wpList P ops Q (o :: rest) a w := by
  refine wpList_plain hg fun K hK => wp_call_val x xs ats ho fn first cap hx hcf args hargs (h.mono ?_)
  intro e w' he
  cases e with
  | returned v => exact hK _ _ he
  | panicked c => exact he
  | outgrown => exact he
/-- A block that is written whole by operation j. -/
def ReX (T : TypeId) (q j : Nat) (V : Array Value) (listed : Array Bool) (w : World) : Prop :=
  (∃ C, w.heap[q]? = some (.cells C T (0, 0)) ∧ C.size = V.size) ∧ (listed.getD j false = true → w.heap[q]? = some (.cells V T (0, 0)))
section
variable {T : TypeId} {q i j : Nat} {V : Array Value} {listed : Array Bool} {w w' : World}
theorem ReX.start {C : Array Value} (h : w.heap[q]? = some (.cells C T (0, 0))) (hC : C.size = V.size) (n : Nat) : ReX T q j V (Array.replicate n false) w.drew := by
  refine ⟨⟨C, h, hC⟩, fun hl => ?_⟩
  simp only [Array.getD_eq_getD_getElem?, Array.getElem?_replicate] at hl
  split at hl <;> simp at hl
theorem ReX.same (h : ReX T q j V listed w) (hi : (i != j) = true) : ReX T q j V (listed.setIfInBounds i true) w := by
  refine ⟨h.1, fun hl => h.2 ?_⟩
  rw [Array.getD_eq_getD_getElem?] at hl ⊢
  rwa [Array.getElem?_setIfInBounds_ne (by simpa using hi)] at hl
theorem ReX.there (h : ReX T q j V listed w) : ∃ C, w.heap[q]? = some (.cells C T (0, 0)) ∧ C.size = V.size := h.1
theorem ReX.one (h : ReX T q j V listed w) (hi : j < listed.size) (h1 : w'.heap[q]? = some (.cells V T (0, 0))) : ReX T q j V (listed.setIfInBounds j true) w' := ⟨⟨V, h1, rfl⟩, fun _ => h1⟩
theorem ReX.fin (h : ReX T q j V listed w) (hj : listed.getD j false = true) : w.heap[q]? = some (.cells V T (0, 0)) := h.2 hj
end
theorem pad_step {b : List UInt8} {g j : Nat} : padE b (g + 1) j = if b.length ≤ j then some 7 else if b.getD j 0 = 0 then padE b g (j + 1) else some 11 := rfl
/-- What a kind's reader answers. -/
def BdRes (r : BR) (p bi : Nat) (t k : Int) (w : World) (e : Ending) (w' : World) : Prop :=
  Chg [p, bi] w w' ∧ match r with
  | .err z => e = .returned (.int .i64 z) ∧ z ≠ 0
  | .ok n d ks c' => e = .returned (.int .i64 0) ∧ ∃ v : ItV, v.it = ⟨t, k, n, d, ks⟩ ∧ w'.heap[bi]? = some (.cells v.arr 30 (0, 0)) ∧ v.ok w' ∧ (∀ q ∈ v.foot, w.heap.size ≤ q) ∧ w'.heap[p]? = some (.cells #[.int .i64 c'] 77 (0, 0))
theorem read_any (f : Nat) (dz : Int) (hdz : 1 ≤ dz ∧ dz ≤ 100)
    (ih : ∀ (a : Option Addr) (n c : Nat) (l : List UInt8) (cnt p : Nat) (w : World), GB w a n c l → Off a [p] → w.heap[p]? = some (.cells #[.int .i64 cnt] 77 (0, 0)) → cnt ≤ 600 → UT w → Calls Tryd.prog 30 #[.pointer (some ⟨p, 0, none⟩), .slice a n c, .int .i64 (dz + 1)] w (ItemRes (decF f l cnt) a p w))
    (p bi : Nat) (t k : Int) (a : Option Addr) (n c : Nat) (l : List UInt8) (cnt : Nat) (w : World) (hi : w.heap[bi]? = some (.cells (ItV.arr { tag := t, typ := k }) 30 (0, 0))) (hn : w.heap[p]? = some (.cells #[.int .i64 cnt] 77 (0, 0))) (hpb : p ≠ bi)
    (hg : GB w a n c l) (ho : Off a [p, bi]) (hc6 : cnt ≤ 600) (hT : UT w) :
    ∃ fn, ofV p k = .func (.func fn) #[.pointer (some ⟨p, 0, none⟩)] #[] ∧ (∀ (args : Array Value) (W : World), (callFunc fn args).run Tryd.prog W = .ok (.enter fn args) W) ∧
      Calls Tryd.prog fn #[.pointer (some ⟨p, 0, none⟩), .pointer (some ⟨bi, 0, none⟩), .slice a n c, .int .i64 dz] w (BdRes (bodyD (decF f) k l cnt) p bi t k w) := by
  have hp1 := block_lt hn
  have hb1 := block_lt hi
  unfold ofV bodyD
  by_cases h1 : k = 1
  · rw [if_pos h1, if_pos h1]
    refine ⟨_, rfl, (fun _ _ => by kernel_rfl), (structure_any f dz hdz ih p bi { tag := t, typ := k } a n c l cnt w hi ⟨rfl, rfl⟩ hn hpb hg ho hc6 hT).mono ?_⟩
    intro e w' h
    obtain ⟨hch, h⟩ := h
    refine ⟨hch, ?_⟩
    cases hk : kidsD (decF f) l.length l cnt [] with
    | err z => rw [hk] at h; exact h
    | ok ks c' =>
      rw [hk] at h
      obtain ⟨rfl, s, acc, hm, hblk, hsl, hok, hsb, hlf, hcn⟩ := h
      refine ⟨rfl, { tag := t, typ := k, ks := s, kids := acc }, ?_, hblk, ?_, ?_, hcn⟩
      · rw [ItV.it_eq]; simp only; rw [hm]
      · exact ItV.ok_iff.2 ⟨SlC.nil _, hsl, hok⟩
      · intro q hq
        rcases ItV.mem_foot.1 hq with h | h | ⟨x, hx, h⟩
        · simp [Sl.blk] at h
        · exact hsb q h
        · exact hlf x hx q h
  rw [if_neg h1, if_neg h1]
  cases hd : isD k with
  | true =>
    rw [if_pos rfl, if_pos rfl]
    refine ⟨_, rfl, (fun _ _ => by kernel_rfl), (bytes_any p bi { tag := t, typ := k } a n c l dz w hi hg hT).mono ?_⟩
    rintro e w' ⟨hch, h⟩
    refine ⟨hch.mono (fun q hq => by rw [List.mem_singleton.1 hq]; simp), ?_⟩
    rcases h with ⟨hb, rfl⟩ | ⟨hb, rfl, s, hblk, hs, hsf⟩
    · rw [if_neg (by rw [hb]; decide)]; exact ⟨rfl, by decide⟩
    · rw [if_pos hb]
      refine ⟨rfl, { tag := t, typ := k, data := l, ds := s }, ?_, hblk, ?_, ?_, ?_⟩
      · rw [ItV.it_eq]; rfl
      · exact ItV.ok_iff.2 ⟨hs, SlR.nil _ _, fun x hx => by cases hx⟩
      · intro q hq
        rcases ItV.mem_foot.1 hq with h | h | ⟨x, hx, h⟩
        · exact hsf q h
        · simp [Sl.blk] at h
        · cases hx
      · exact (hch.block p hp1 (by simp; exact hpb)).trans hn
  | false =>
    rw [if_neg Bool.false_ne_true, if_neg Bool.false_ne_true]
    cases hs : isS k with
    | true =>
      rw [if_pos rfl, if_pos rfl]
      refine ⟨_, rfl, (fun _ _ => by kernel_rfl), (short_any p bi { tag := t, typ := k } a n c l dz w hi hg).mono ?_⟩
      rintro e w' ⟨hch, rfl, hblk⟩
      refine ⟨hch.mono (fun q hq => by rw [List.mem_singleton.1 hq]; simp), rfl, { tag := t, typ := k, int := shortV k l }, ?_, hblk, ?_, ?_, ?_⟩
      · rw [ItV.it_eq]; rfl
      · exact ItV.ok_iff.2 ⟨SlC.nil _, SlR.nil _ _, fun x hx => by cases hx⟩
      · intro q hq
        rcases ItV.mem_foot.1 hq with h | h | ⟨x, hx, h⟩
        · simp [Sl.blk] at h
        · simp [Sl.blk] at h
        · cases hx
      · exact (hch.block p hp1 (by simp; exact hpb)).trans hn
    | false =>
      rw [if_neg Bool.false_ne_true, if_neg Bool.false_ne_true]
      refine ⟨_, rfl, (fun _ _ => by kernel_rfl), (long_any p bi { tag := t, typ := k } a n c l dz w hi hg).mono ?_⟩
      rintro e w' ⟨hch, hblk, rfl⟩
      refine ⟨hch.mono (fun q hq => by rw [List.mem_singleton.1 hq]; simp), ?_⟩
      dsimp only at hblk ⊢
      cases hb : numB k (pI 8 (l, false)).1 with
      | false => rw [if_neg (by decide)]; exact ⟨rfl, by decide⟩
      | true =>
        rw [if_pos rfl]
        refine ⟨rfl, { tag := t, typ := k, int := (pI 8 (l, false)).1 }, ?_, hblk, ?_, ?_, ?_⟩
        · rw [ItV.it_eq]; rfl
        · exact ItV.ok_iff.2 ⟨SlC.nil _, SlR.nil _ _, fun x hx => by cases hx⟩
        · intro q hq
          rcases ItV.mem_foot.1 hq with h | h | ⟨x, hx, h⟩
          · simp [Sl.blk] at h
          · simp [Sl.blk] at h
          · cases hx
        · exact (hch.block p hp1 (by simp; exact hpb)).trans hn
/-- While an item is read: the answer's cell, the reader's count. -/
structure RiSt (w W : World) (b p : Nat) (c : Nat) : Prop where
  rs : W.heap[b]? = some (.cells itZ.arr 30 (0, 0))
  cn : W.heap[p]? = some (.cells #[.int .i64 c] 77 (0, 0))
  chg : Chg [p] w W
  eb : b = w.heap.size
  pl : p < w.heap.size
section
variable {w W W' : World} {b p c c' : Nat}
theorem RiSt.start (hn : w.heap[p]? = some (.cells #[.int .i64 c] 77 (0, 0))) : RiSt w (w.alloc (.cells itZ.arr 30)) w.heap.size p c :=
  have hb : Below w.heap.size w (w.alloc (.cells itZ.arr 30)) := (Below.refl _ _).alloc (Nat.le_refl _) _
  ⟨block_new _ _, (hb.block _ (block_lt hn)).trans hn, Chg.of_below hb _, rfl, block_lt hn⟩
theorem RiSt.below (h : RiSt w W b p c) (hb : Below W.heap.size W W') : RiSt w W' b p c :=
  ⟨(hb.block _ (block_lt h.rs)).trans h.rs, (hb.block _ (block_lt h.cn)).trans h.cn, h.chg.trans (Chg.of_below hb []) (fun _ hm => by cases hm), h.eb, h.pl⟩
theorem RiSt.turn {G : List Nat} (h : RiSt w W b p c) (hc : Chg G W W') (hG : ∀ q ∈ G, q = p ∨ b < q) (hn : W'.heap[p]? = some (.cells #[.int .i64 c'] 77 (0, 0))) : RiSt w W' b p c' :=
  ⟨(hc.block _ (block_lt h.rs) (fun hm => by have := hG b hm; have := h.eb; have := h.pl; omega)).trans h.rs, hn, h.chg.trans hc (fun q hq => by
    rcases hG q hq with h' | h'
    · left; rw [h']; simp
    · right; have := h.eb; omega), h.eb, h.pl⟩
theorem RiSt.keep {G : List Nat} (h : RiSt w W b p c) (hc : Chg G W W') (hG : ∀ q ∈ G, b < q) : RiSt w W' b p c :=
  h.turn hc (fun q hq => .inr (hG q hq)) ((hc.block _ (block_lt h.cn) (fun hm => by have := hG p hm; have := h.eb; have := h.pl; omega)).trans h.cn)
theorem RiSt.put (h : RiSt w W b p c) (z : Int) (hz : z = (c' : Int)) : RiSt w (W.setCell ⟨p, 0, none⟩ (.int .i64 z)) b p c' := by
  subst hz
  exact h.turn ((Chg.refl [p] W).setCell (.inl (by simp)) _) (fun q hq => .inl (List.mem_singleton.1 hq)) (block_setCell (j := 0) h.cn _)
theorem RiSt.done (h : RiSt w W b p c) (hc : Chg [b] W W') : Chg [p] w W' :=
  h.chg.trans hc (fun q hq => by right; rw [List.mem_singleton.1 hq]; have := h.eb; omega)
end
theorem iBuildTK (t k : Int) (w : World) : (Instr.build 30 #[(0, .int .i64 t), (1, .int .i64 k)]).run Tryd.prog w = .ok (.agg (ItV.arr { tag := t, typ := k })) w := by kernel_rfl
/-- The loop over the bytes that pad. -/
structure PdSt (b : List UInt8) (N E : Nat) (wx : World) (y : Value) (wr : World) : Prop where
  ex : ∃ j : Nat, y = .int .i64 j ∧ N ≤ j ∧ j ≤ E ∧ padE b (E - j) j = padE b (E - N) N ∧ wr = wx
theorem ritem_any : ∀ (f : Nat) (dz : Int), dz + f = 13 → 1 ≤ dz → ∀ (a : Option Addr) (n c : Nat) (l : List UInt8) (cnt p : Nat) (w : World), GB w a n c l → Off a [p] → w.heap[p]? = some (.cells #[.int .i64 cnt] 77 (0, 0)) → cnt ≤ 600 → UT w →
    Calls Tryd.prog 30 #[.pointer (some ⟨p, 0, none⟩), .slice a n c, .int .i64 dz] w (ItemRes (decF f l cnt) a p w) := by
  intro f
  induction f with
  | zero =>
    intro dz hd h1 a n c l cnt p w hg ho hn hc6 hT
    obtain rfl : dz = 13 := by omega
    obtain ⟨b, hbe⟩ : ∃ b, b = w.heap.size := ⟨_, rfl⟩
    have S := hid (RiSt.start hn)
    rw [← hbe] at S
    have HG := hid (hg.below ((Below.refl _ _).alloc (Nat.le_refl _) (.cells itZ.arr 30)))
    have HO := hid ho; have HT := hid hT
    have HAP := hid (hT.apart hn (by show (1 : Nat) < 32; decide))
    have HLT := hid hg.lt
    go_enter Tryd.func30, Tryd.ntmps30
    go_upto_region 1 with (refine wpList_alloc_obj rfl 30 rfl _ iZero ?_)
    go_simp
    rw [← hbe]
    clear hn hg ho hT hbe
    generalize w.alloc (.cells itZ.arr 30) = W at *
    have HLN := hid HG.out.rd.len
    by_cases h8 : n < 8
    · have h8z : (n : Int) < 8 := by omega
      have HD : Hid (decF 0 l cnt = .err 7) := by have := HLN.out; show _ = _; rw [decF, if_pos (by omega)]
      clear h8
      go_wp2_with (first | (refine wpList_build_obj rfl 30 _ rfl #[] rfl _ (iBuild0 _) ?_) | (refine wpList_store_obj rfl 30 _ _ rfl b rfl itZ.arr rfl _ _ S.out.rs rfl iSize (arr_one itZ) ?_; intro w10 hb10 hc10 hs10; have HB10 := hid hb10; have HC10 := hid hc10; clear hb10 hc10 hs10))
      refine bodyPost_ret (results_cell_tmp2 rfl _ _ b _ _ _ _ rfl HB10.out Tryd.underlying30 rfl iSize _ _ rfl rfl) rfl ?_
      unfold ItemRes
      rw [HD.out]
      exact ⟨S.out.done HC10.out, rfl, by decide⟩
    have h8z : ¬ (n : Int) < 8 := by omega
    have H8 := hid h8
    clear h8
    have dc := cell_of_block (j := 0) S.out.cn rfl
    have hfz := frozen_of_block (j := 0) S.out.cn
    have hw : IntKind.i64.wrap ((cnt : Int) + 1) = (cnt : Int) + 1 := IntWalk.i64_in _ (by omega)
    go_upto_region 4 with (fail)
    have S2 := hid (S.out.put (c' := cnt + 1) ((cnt : Int) + 1) (by omega))
    have HG2 := hid (HG.out.keep (G := [p]) (w' := W.setCell ⟨p, 0, none⟩ (.int .i64 ((cnt : Int) + 1))) ((Chg.refl [p] W).setCell (.inl (by simp)) _) HO.out)
    clear S dc hfz hw HG
    have S := S2
    have HG := HG2
    clear S2 HG2
    generalize W.setCell ⟨p, 0, none⟩ (.int .i64 ((cnt : Int) + 1)) = W1 at *
    obtain ⟨h0, hr1, hr2, hr3, hr4⟩ := And.intro trivial (hd_range (l := l) (by have := H8.out; have := HLN.out; omega))
    have HR1 := hid hr1; have HR2 := hid hr2; have HR3 := hid hr3; have HR4 := hid hr4
    clear hr1 hr2 hr3 hr4 h0
    have hsl1 : ∀ w, (Instr.slice 27 (.slice a n c) none (some (.int .i64 8)) none).run Tryd.prog w = .ok (.slice a 8 c) w := fun w => run_slice_front (P := Tryd.prog) 27 5 1 Tryd.underlying27 (fun w => by kernel_rfl) a n c 8 (by have := HG.out.nc; have := H8.out; omega) w
    go_wp2_with fail
    clear hsl1
    refine (soNew_any a 8 c (l.take 8) _ (HG.out.rd.take (by have := H8.out; omega)) HG.out.no (by decide)).mono ?_
    rintro e w2 ⟨q, FQ, rfl, hq, hqf, hb⟩
    dsimp only
    have HQ : Hid (RdS 110 w2 q (hS l) FQ) := hq
    have HQF := hid (fun k hk => Nat.lt_of_lt_of_le (block_lt S.out.rs) (hqf k hk))
    have S2 := hid (S.out.below hb)
    have HG2 := hid (HG.out.below hb)
    clear S HG hq hqf hb
    have S := S2
    have HG := HG2
    clear S2 HG2
    go_wp2_with fail
    refine (soU8_any q _ FQ _ HQ.out).mono ?_
    rintro e w3 ⟨rfl, hc3, hq3⟩
    dsimp only
    obtain ⟨A, hA⟩ : ∃ A, A = tagA l := ⟨_, rfl⟩
    rw [show (pI 1 (hS l)).1 = tagA l from rfl, ← hA]
    rw [← hA] at HR1
    have hsh : IntKind.i64.wrap (A * 65536) = A * 65536 := IntWalk.i64_in _ (by have := HR1.out; omega)
    obtain ⟨s1, hs1⟩ : ∃ s1, s1 = (pI 1 (hS l)).2 := ⟨_, rfl⟩
    rw [← hs1] at hq3
    have HQ3 := hid hq3
    have HA := hid hA; have HS1 := hid hs1
    have S2 := hid (S.out.keep hc3 (fun k hk => by rw [List.mem_singleton.1 hk]; exact HQF.out q HQ.out.mem))
    have HG2 := hid (HG.out.keep hc3 (fun k off sp e hm => by have h1 := HQF.out q HQ.out.mem; have h2 := HLT.out k off sp e; have h3 := List.mem_singleton.1 hm; have h4 := S.out.eb; omega))
    clear S HG HQ hc3 hq3 hA hs1
    have S := S2
    have HG := HG2
    clear S2 HG2
    go_wp2_with fail
    refine (soU16_any q _ FQ _ HQ3.out).mono ?_
    rintro e w4 ⟨rfl, hc4, hq4⟩
    dsimp only
    obtain ⟨L, hL⟩ : ∃ L, L = tagL l := ⟨_, rfl⟩
    have e4 : (pI 2 s1).1 = L := by rw [hL, HS1.out]; rfl
    rw [e4]
    rw [← hL] at HR2
    have hor : bits .or .i64 (A * 65536) L = A * 65536 + L := or_tag HR1.out HR2.out
    have hTD : A * 65536 + L = tagD l := by rw [HA.out, hL]; rfl
    rw [hTD] at hor
    obtain ⟨s2, hs2⟩ : ∃ s2, s2 = (pI 2 s1).2 := ⟨_, rfl⟩
    rw [← hs2] at hq4
    have HQ4 := hid hq4
    have HL := hid hL; have HS2 := hid hs2
    have S2 := hid (S.out.keep hc4 (fun k hk => by rw [List.mem_singleton.1 hk]; exact HQF.out q HQ3.out.mem))
    have HG2 := hid (HG.out.keep hc4 (fun k off sp e hm => by have h1 := HQF.out q HQ3.out.mem; have h2 := HLT.out k off sp e; have h3 := List.mem_singleton.1 hm; have h4 := S.out.eb; omega))
    clear S HG HQ3 hc4 hq4 hL hs2 hTD e4
    have S := S2
    have HG := HG2
    clear S2 HG2
    obtain ⟨T, hT⟩ : ∃ T, T = tagD l := ⟨_, rfl⟩
    rw [← hT] at hor
    have HTD := hid hT
    clear hT
    go_wp2_with fail
    refine (soU8_any q _ FQ _ HQ4.out).mono ?_
    rintro e w5 ⟨rfl, hc5, hq5⟩
    dsimp only
    obtain ⟨K, hK⟩ : ∃ K, K = typD l := ⟨_, rfl⟩
    have e5 : (pI 1 s2).1 = K := by rw [hK, HS2.out, HS1.out]; rfl
    rw [e5]
    obtain ⟨s3, hs3⟩ : ∃ s3, s3 = (pI 1 s2).2 := ⟨_, rfl⟩
    rw [← hs3] at hq5
    have HQ5 := hid hq5
    have HK := hid hK; have HS3 := hid hs3
    have S2 := hid (S.out.keep hc5 (fun k hk => by rw [List.mem_singleton.1 hk]; exact HQF.out q HQ4.out.mem))
    have HG2 := hid (HG.out.keep hc5 (fun k off sp e hm => by have h1 := HQF.out q HQ4.out.mem; have h2 := HLT.out k off sp e; have h3 := List.mem_singleton.1 hm; have h4 := S.out.eb; omega))
    clear S HG HQ4 hc5 hq5 hK hs3 e5 hsh
    have S := S2
    have HG := HG2
    clear S2 HG2
    go_upto_region 6 with (first | (refine wpList_build_obj rfl 30 _ rfl #[(0, .int .i64 T), (1, .int .i64 K)] rfl _ (iBuildTK T K _) ?_) | (refine wpList_alloc_obj rfl 30 rfl _ iZero ?_) | (refine wpList_store_obj rfl 30 _ _ rfl w5.heap.size rfl (ItV.arr { tag := T, typ := K }) rfl _ _ (block_new w5 _) rfl iSize (arr_one _) ?_; intro w6 hb6 hc6b hs6; have HBI := hid hb6; have HC6 := hid hc6b; clear hb6 hc6b hs6))
    clear hor
    have hbel : Below w5.heap.size w5 w6 := ((Below.refl _ w5).alloc (Nat.le_refl _) _).trans (HC6.out.below (fun k hk => by rw [List.mem_singleton.1 hk]; exact Nat.le_refl _) (by simp))
    have S2 := hid (S.out.below hbel)
    have HG2 := hid (HG.out.below hbel)
    have HQ6 := hid (HQ5.out.below hbel)
    have HQB := hid HQ5.out.lt
    obtain ⟨bi, hbi⟩ : ∃ bi, bi = w5.heap.size := ⟨_, rfl⟩
    rw [← hbi] at HBI HQB ⊢
    have HBB : Hid (b < bi) := by rw [hbi]; exact block_lt S.out.rs
    clear S HG HQ5 hbel HC6 hbi
    have S := S2
    have HG := HG2
    clear S2 HG2
    go_wp2_with fail
    refine (soU32_any q _ FQ _ HQ6.out).mono ?_
    rintro e w7 ⟨rfl, hc7, hq7⟩
    dsimp only
    obtain ⟨Z, hZ⟩ : ∃ Z, Z = lenD l := ⟨_, rfl⟩
    have e7 : (pI 4 s3).1 = Z := by rw [hZ, HS3.out, HS2.out, HS1.out]; rfl
    rw [e7]
    have HZ := hid hZ
    rw [← hZ] at HR4
    have S2 := hid (S.out.keep hc7 (fun k hk => by rw [List.mem_singleton.1 hk]; exact HQF.out q HQ6.out.mem))
    have HG2 := hid (HG.out.keep hc7 (fun k off sp e hm => by have h1 := HQF.out q HQ6.out.mem; have h2 := HLT.out k off sp e; have h3 := List.mem_singleton.1 hm; have h4 := S.out.eb; omega))
    have HBI2 := hid ((hc7.block bi (block_lt HBI.out) (fun hm => by have h1 := HQB.out; have h2 := List.mem_singleton.1 hm; omega)).trans HBI.out)
    clear S HG HQ6 hc7 hq7 hZ e7 HBI HS1 HS2 HS3 HQF HQB HA HL HR1 HR2
    have S := S2
    have HG := HG2
    have HBI := HBI2
    clear S2 HG2 HBI2
    obtain ⟨a2, ha2, hg2, hof2⟩ := HG.out.drop (k := 8) (by have := H8.out; omega)
    obtain ⟨m, hm⟩ : ∃ m, m = n - 8 := ⟨_, rfl⟩
    obtain ⟨cm, hcm⟩ : ∃ cm, cm = c - 8 := ⟨_, rfl⟩
    have hsl2 : ∀ w, (Instr.slice 27 (.slice a n c) (some (.int .i64 8)) none none).run Tryd.prog w = .ok (.slice a2 m cm) w := fun w => by rw [← ha2, hm, hcm]; exact run_slice_back (P := Tryd.prog) 27 5 1 Tryd.underlying27 (fun w => by kernel_rfl) a n c 8 (by have := H8.out; omega) w
    rw [← hm, ← hcm] at hg2
    have HG2 := hid hg2; have HOF2 := hid hof2; have HM := hid hm
    clear ha2 hg2 hof2 hm hcm
    go_upto_block 0 with (fail)
    clear hsl2
    have HM2 := hid HG2.out.rd.len
    have HD0 : Hid (decF 0 l cnt = .err 10) := by
      have h1 := H8.out; have h2 := HLN.out
      show _ = _
      rw [decF, if_neg (by omega)]
    go_wp2_with (first | (refine wpList_build_obj rfl 30 _ rfl #[] rfl _ (iBuild0 _) ?_) | (refine wpList_store_obj rfl 30 _ _ rfl b rfl itZ.arr rfl _ _ S.out.rs rfl iSize (arr_one itZ) ?_; intro w10 hb10 hc10 hs10; have HB10 := hid hb10; have HC10 := hid hc10; clear hb10 hc10 hs10))
    refine bodyPost_ret (results_cell_tmp2 rfl _ _ b _ _ _ _ rfl HB10.out Tryd.underlying30 rfl iSize _ _ rfl rfl) rfl ?_
    unfold ItemRes
    rw [HD0.out]
    exact ⟨S.out.done HC10.out, rfl, by decide⟩
  | succ f ih =>
    intro dz hd h1 a n c l cnt p w hg ho hn hc6 hT
    have IH := hid ih
    have HDZ := hid (And.intro (show dz + 1 + (f : Int) = 13 by omega) (show 1 ≤ dz + 1 by omega))
    have HDR := hid (And.intro h1 (show dz ≤ 100 by omega))
    have hdz : ¬ (12 : Int) < dz := by omega
    clear ih hd h1
    obtain ⟨b, hbe⟩ : ∃ b, b = w.heap.size := ⟨_, rfl⟩
    have S := hid (RiSt.start hn)
    rw [← hbe] at S
    have HG := hid (hg.below ((Below.refl _ _).alloc (Nat.le_refl _) (.cells itZ.arr 30)))
    have HO := hid ho; have HT := hid hT
    have HAP := hid (hT.apart hn (by show (1 : Nat) < 32; decide))
    have HLT := hid hg.lt
    go_enter Tryd.func30, Tryd.ntmps30
    go_upto_region 1 with (refine wpList_alloc_obj rfl 30 rfl _ iZero ?_)
    go_simp
    rw [← hbe]
    clear hn hg ho hT hbe
    generalize w.alloc (.cells itZ.arr 30) = W at *
    have HLN := hid HG.out.rd.len
    by_cases h8 : n < 8
    · have h8z : (n : Int) < 8 := by omega
      have HD : Hid (decF (f + 1) l cnt = .err 7) := by have := HLN.out; show _ = _; rw [decF, if_pos (by omega)]
      clear h8
      go_wp2_with (first | (refine wpList_build_obj rfl 30 _ rfl #[] rfl _ (iBuild0 _) ?_) | (refine wpList_store_obj rfl 30 _ _ rfl b rfl itZ.arr rfl _ _ S.out.rs rfl iSize (arr_one itZ) ?_; intro w10 hb10 hc10 hs10; have HB10 := hid hb10; have HC10 := hid hc10; clear hb10 hc10 hs10))
      refine bodyPost_ret (results_cell_tmp2 rfl _ _ b _ _ _ _ rfl HB10.out Tryd.underlying30 rfl iSize _ _ rfl rfl) rfl ?_
      unfold ItemRes
      rw [HD.out]
      exact ⟨S.out.done HC10.out, rfl, by decide⟩
    have h8z : ¬ (n : Int) < 8 := by omega
    have H8 := hid h8
    clear h8
    have dc := cell_of_block (j := 0) S.out.cn rfl
    have hfz := frozen_of_block (j := 0) S.out.cn
    have hw : IntKind.i64.wrap ((cnt : Int) + 1) = (cnt : Int) + 1 := IntWalk.i64_in _ (by omega)
    go_upto_region 4 with (fail)
    have S2 := hid (S.out.put (c' := cnt + 1) ((cnt : Int) + 1) (by omega))
    have HG2 := hid (HG.out.keep (G := [p]) (w' := W.setCell ⟨p, 0, none⟩ (.int .i64 ((cnt : Int) + 1))) ((Chg.refl [p] W).setCell (.inl (by simp)) _) HO.out)
    clear S dc hfz hw HG
    have S := S2
    have HG := HG2
    clear S2 HG2
    generalize W.setCell ⟨p, 0, none⟩ (.int .i64 ((cnt : Int) + 1)) = W1 at *
    obtain ⟨h0, hr1, hr2, hr3, hr4⟩ := And.intro trivial (hd_range (l := l) (by have := H8.out; have := HLN.out; omega))
    have HR1 := hid hr1; have HR2 := hid hr2; have HR3 := hid hr3; have HR4 := hid hr4
    clear hr1 hr2 hr3 hr4 h0
    have hsl1 : ∀ w, (Instr.slice 27 (.slice a n c) none (some (.int .i64 8)) none).run Tryd.prog w = .ok (.slice a 8 c) w := fun w => run_slice_front (P := Tryd.prog) 27 5 1 Tryd.underlying27 (fun w => by kernel_rfl) a n c 8 (by have := HG.out.nc; have := H8.out; omega) w
    go_wp2_with fail
    clear hsl1
    refine (soNew_any a 8 c (l.take 8) _ (HG.out.rd.take (by have := H8.out; omega)) HG.out.no (by decide)).mono ?_
    rintro e w2 ⟨q, FQ, rfl, hq, hqf, hb⟩
    dsimp only
    have HQ : Hid (RdS 110 w2 q (hS l) FQ) := hq
    have HQF := hid (fun k hk => Nat.lt_of_lt_of_le (block_lt S.out.rs) (hqf k hk))
    have S2 := hid (S.out.below hb)
    have HG2 := hid (HG.out.below hb)
    clear S HG hq hqf hb
    have S := S2
    have HG := HG2
    clear S2 HG2
    go_wp2_with fail
    refine (soU8_any q _ FQ _ HQ.out).mono ?_
    rintro e w3 ⟨rfl, hc3, hq3⟩
    dsimp only
    obtain ⟨A, hA⟩ : ∃ A, A = tagA l := ⟨_, rfl⟩
    rw [show (pI 1 (hS l)).1 = tagA l from rfl, ← hA]
    rw [← hA] at HR1
    have hsh : IntKind.i64.wrap (A * 65536) = A * 65536 := IntWalk.i64_in _ (by have := HR1.out; omega)
    obtain ⟨s1, hs1⟩ : ∃ s1, s1 = (pI 1 (hS l)).2 := ⟨_, rfl⟩
    rw [← hs1] at hq3
    have HQ3 := hid hq3
    have HA := hid hA; have HS1 := hid hs1
    have S2 := hid (S.out.keep hc3 (fun k hk => by rw [List.mem_singleton.1 hk]; exact HQF.out q HQ.out.mem))
    have HG2 := hid (HG.out.keep hc3 (fun k off sp e hm => by have h1 := HQF.out q HQ.out.mem; have h2 := HLT.out k off sp e; have h3 := List.mem_singleton.1 hm; have h4 := S.out.eb; omega))
    clear S HG HQ hc3 hq3 hA hs1
    have S := S2
    have HG := HG2
    clear S2 HG2
    go_wp2_with fail
    refine (soU16_any q _ FQ _ HQ3.out).mono ?_
    rintro e w4 ⟨rfl, hc4, hq4⟩
    dsimp only
    obtain ⟨L, hL⟩ : ∃ L, L = tagL l := ⟨_, rfl⟩
    have e4 : (pI 2 s1).1 = L := by rw [hL, HS1.out]; rfl
    rw [e4]
    rw [← hL] at HR2
    have hor : bits .or .i64 (A * 65536) L = A * 65536 + L := or_tag HR1.out HR2.out
    have hTD : A * 65536 + L = tagD l := by rw [HA.out, hL]; rfl
    rw [hTD] at hor
    obtain ⟨s2, hs2⟩ : ∃ s2, s2 = (pI 2 s1).2 := ⟨_, rfl⟩
    rw [← hs2] at hq4
    have HQ4 := hid hq4
    have HL := hid hL; have HS2 := hid hs2
    have S2 := hid (S.out.keep hc4 (fun k hk => by rw [List.mem_singleton.1 hk]; exact HQF.out q HQ3.out.mem))
    have HG2 := hid (HG.out.keep hc4 (fun k off sp e hm => by have h1 := HQF.out q HQ3.out.mem; have h2 := HLT.out k off sp e; have h3 := List.mem_singleton.1 hm; have h4 := S.out.eb; omega))
    clear S HG HQ3 hc4 hq4 hL hs2 hTD e4
    have S := S2
    have HG := HG2
    clear S2 HG2
    obtain ⟨T, hT⟩ : ∃ T, T = tagD l := ⟨_, rfl⟩
    rw [← hT] at hor
    have HTD := hid hT
    clear hT
    go_wp2_with fail
    refine (soU8_any q _ FQ _ HQ4.out).mono ?_
    rintro e w5 ⟨rfl, hc5, hq5⟩
    dsimp only
    obtain ⟨K, hK⟩ : ∃ K, K = typD l := ⟨_, rfl⟩
    have e5 : (pI 1 s2).1 = K := by rw [hK, HS2.out, HS1.out]; rfl
    rw [e5]
    obtain ⟨s3, hs3⟩ : ∃ s3, s3 = (pI 1 s2).2 := ⟨_, rfl⟩
    rw [← hs3] at hq5
    have HQ5 := hid hq5
    have HK := hid hK; have HS3 := hid hs3
    have S2 := hid (S.out.keep hc5 (fun k hk => by rw [List.mem_singleton.1 hk]; exact HQF.out q HQ4.out.mem))
    have HG2 := hid (HG.out.keep hc5 (fun k off sp e hm => by have h1 := HQF.out q HQ4.out.mem; have h2 := HLT.out k off sp e; have h3 := List.mem_singleton.1 hm; have h4 := S.out.eb; omega))
    clear S HG HQ4 hc5 hq5 hK hs3 e5 hsh
    have S := S2
    have HG := HG2
    clear S2 HG2
    go_upto_region 6 with (first | (refine wpList_build_obj rfl 30 _ rfl #[(0, .int .i64 T), (1, .int .i64 K)] rfl _ (iBuildTK T K _) ?_) | (refine wpList_alloc_obj rfl 30 rfl _ iZero ?_) | (refine wpList_store_obj rfl 30 _ _ rfl w5.heap.size rfl (ItV.arr { tag := T, typ := K }) rfl _ _ (block_new w5 _) rfl iSize (arr_one _) ?_; intro w6 hb6 hc6b hs6; have HBI := hid hb6; have HC6 := hid hc6b; clear hb6 hc6b hs6))
    clear hor
    have hbel : Below w5.heap.size w5 w6 := ((Below.refl _ w5).alloc (Nat.le_refl _) _).trans (HC6.out.below (fun k hk => by rw [List.mem_singleton.1 hk]; exact Nat.le_refl _) (by simp))
    have S2 := hid (S.out.below hbel)
    have HG2 := hid (HG.out.below hbel)
    have HQ6 := hid (HQ5.out.below hbel)
    have HQB := hid HQ5.out.lt
    obtain ⟨bi, hbi⟩ : ∃ bi, bi = w5.heap.size := ⟨_, rfl⟩
    rw [← hbi] at HBI HQB ⊢
    have HBB : Hid (b < bi) := by rw [hbi]; exact block_lt S.out.rs
    clear S HG HQ5 hbel HC6 hbi
    have S := S2
    have HG := HG2
    clear S2 HG2
    go_wp2_with fail
    refine (soU32_any q _ FQ _ HQ6.out).mono ?_
    rintro e w7 ⟨rfl, hc7, hq7⟩
    dsimp only
    obtain ⟨Z, hZ⟩ : ∃ Z, Z = lenD l := ⟨_, rfl⟩
    have e7 : (pI 4 s3).1 = Z := by rw [hZ, HS3.out, HS2.out, HS1.out]; rfl
    rw [e7]
    have HZ := hid hZ
    rw [← hZ] at HR4
    have S2 := hid (S.out.keep hc7 (fun k hk => by rw [List.mem_singleton.1 hk]; exact HQF.out q HQ6.out.mem))
    have HG2 := hid (HG.out.keep hc7 (fun k off sp e hm => by have h1 := HQF.out q HQ6.out.mem; have h2 := HLT.out k off sp e; have h3 := List.mem_singleton.1 hm; have h4 := S.out.eb; omega))
    have HBI2 := hid ((hc7.block bi (block_lt HBI.out) (fun hm => by have h1 := HQB.out; have h2 := List.mem_singleton.1 hm; omega)).trans HBI.out)
    clear S HG HQ6 hc7 hq7 hZ e7 HBI HS1 HS2 HS3 HQF HQB HA HL HR1 HR2
    have S := S2
    have HG := HG2
    have HBI := HBI2
    clear S2 HG2 HBI2
    obtain ⟨a2, ha2, hg2, hof2⟩ := HG.out.drop (k := 8) (by have := H8.out; omega)
    obtain ⟨m, hm⟩ : ∃ m, m = n - 8 := ⟨_, rfl⟩
    obtain ⟨cm, hcm⟩ : ∃ cm, cm = c - 8 := ⟨_, rfl⟩
    have hsl2 : ∀ w, (Instr.slice 27 (.slice a n c) (some (.int .i64 8)) none none).run Tryd.prog w = .ok (.slice a2 m cm) w := fun w => by rw [← ha2, hm, hcm]; exact run_slice_back (P := Tryd.prog) 27 5 1 Tryd.underlying27 (fun w => by kernel_rfl) a n c 8 (by have := H8.out; omega) w
    rw [← hm, ← hcm] at hg2
    have HG2 := hid hg2; have HOF2 := hid hof2; have HM := hid hm
    clear ha2 hg2 hof2 hm hcm
    go_upto_block 0 with (fail)
    clear hsl2
    have HM2 := hid HG2.out.rd.len
    have HD0 : Hid (decF (f + 1) l cnt = if 600 < cnt + 1 ∨ tagB T = false ∨ K < 1 ∨ 10 < K then .err 5 else if ((l.drop 8).length : Int) < Z then .err 7 else if ofB K Z.toNat = false then .err 5 else match bodyD (decF f) K ((l.drop 8).take Z.toNat) (cnt + 1) with | .err e => .err e | .ok n d ks c' => match padE (l.drop 8) (up8 Z.toNat - Z.toNat) Z.toNat with | some e => .err e | none => .ok ⟨T, K, n, d, ks⟩ ((l.drop 8).drop (up8 Z.toNat)) c') := by
      have h1 := H8.out; have h2 := HLN.out
      show _ = _
      rw [decF, if_neg (by omega)]
      rw [HTD.out, HK.out, HZ.out]
      rfl
    have dcn := cell_of_block (j := 0) S.out.cn rfl
    have d0 := cell_of_block (j := 0) HBI.out (ar0 _)
    have d1 := cell_of_block (j := 1) HBI.out (ar1 _)
    dsimp only at d0 d1
    by_cases q1 : 600 < cnt + 1
    · have q1z : (600 : Int) < ((cnt + 1 : Nat) : Int) := by omega
      rw [if_pos (.inl q1)] at HD0
      clear q1
      go_wp2_with (first | (refine wpList_build_obj rfl 30 _ rfl #[] rfl _ (iBuild0 _) ?_) | (refine wpList_store_obj rfl 30 _ _ rfl b rfl itZ.arr rfl _ _ S.out.rs rfl iSize (arr_one itZ) ?_; intro w10 hb10 hc10 hs10; have HB10 := hid hb10; have HC10 := hid hc10; clear hb10 hc10 hs10))
      refine bodyPost_ret (results_cell_tmp2 rfl _ _ b _ _ _ _ rfl HB10.out Tryd.underlying30 rfl iSize _ _ rfl rfl) rfl ?_
      unfold ItemRes
      rw [HD0.out]
      exact ⟨S.out.done HC10.out, rfl, by decide⟩
    have q1z : ¬ (600 : Int) < ((cnt + 1 : Nat) : Int) := by omega
    cases q2 : tagB T with
    | false =>
      have Q2 := hid q2
      rw [if_pos (.inr (.inl q2))] at HD0
      clear q1 q2
      go_wp2_with fail
      refine (tag_any T _).mono ?_
      rintro e wz ⟨rfl, rfl⟩
      dsimp only
      rw [Q2.out]
      go_wp2_with (first | (refine wpList_build_obj rfl 30 _ rfl #[] rfl _ (iBuild0 _) ?_) | (refine wpList_store_obj rfl 30 _ _ rfl b rfl itZ.arr rfl _ _ S.out.rs rfl iSize (arr_one itZ) ?_; intro w10 hb10 hc10 hs10; have HB10 := hid hb10; have HC10 := hid hc10; clear hb10 hc10 hs10))
      refine bodyPost_ret (results_cell_tmp2 rfl _ _ b _ _ _ _ rfl HB10.out Tryd.underlying30 rfl iSize _ _ rfl rfl) rfl ?_
      unfold ItemRes
      rw [HD0.out]
      exact ⟨S.out.done HC10.out, rfl, by decide⟩
    | true =>
      have Q2 := hid q2
      by_cases q3 : K < 1
      · rw [if_pos (.inr (.inr (.inl q3)))] at HD0
        clear q1 q2
        go_wp2_with fail
        refine (tag_any T _).mono ?_
        rintro e wz ⟨rfl, rfl⟩
        dsimp only
        rw [Q2.out]
        go_wp2_with (first | (refine wpList_build_obj rfl 30 _ rfl #[] rfl _ (iBuild0 _) ?_) | (refine wpList_store_obj rfl 30 _ _ rfl b rfl itZ.arr rfl _ _ S.out.rs rfl iSize (arr_one itZ) ?_; intro w10 hb10 hc10 hs10; have HB10 := hid hb10; have HC10 := hid hc10; clear hb10 hc10 hs10))
        refine bodyPost_ret (results_cell_tmp2 rfl _ _ b _ _ _ _ rfl HB10.out Tryd.underlying30 rfl iSize _ _ rfl rfl) rfl ?_
        unfold ItemRes
        rw [HD0.out]
        exact ⟨S.out.done HC10.out, rfl, by decide⟩
      by_cases q4 : 10 < K
      · rw [if_pos (.inr (.inr (.inr q4)))] at HD0
        clear q1 q2
        go_wp2_with fail
        refine (tag_any T _).mono ?_
        rintro e wz ⟨rfl, rfl⟩
        dsimp only
        rw [Q2.out]
        go_wp2_with (first | (refine wpList_build_obj rfl 30 _ rfl #[] rfl _ (iBuild0 _) ?_) | (refine wpList_store_obj rfl 30 _ _ rfl b rfl itZ.arr rfl _ _ S.out.rs rfl iSize (arr_one itZ) ?_; intro w10 hb10 hc10 hs10; have HB10 := hid hb10; have HC10 := hid hc10; clear hb10 hc10 hs10))
        refine bodyPost_ret (results_cell_tmp2 rfl _ _ b _ _ _ _ rfl HB10.out Tryd.underlying30 rfl iSize _ _ rfl rfl) rfl ?_
        unfold ItemRes
        rw [HD0.out]
        exact ⟨S.out.done HC10.out, rfl, by decide⟩
      rw [if_neg (by simp only [not_or]; exact ⟨q1, by rw [q2]; decide, q3, q4⟩)] at HD0
      clear q1 q2
      by_cases q5 : (m : Int) < Z
      · rw [if_pos (by rw [HM2.out]; exact q5)] at HD0
        go_wp2_with fail
        refine (tag_any T _).mono ?_
        rintro e wz ⟨rfl, rfl⟩
        dsimp only
        rw [Q2.out]
        go_wp2_with (first | (refine wpList_build_obj rfl 30 _ rfl #[] rfl _ (iBuild0 _) ?_) | (refine wpList_store_obj rfl 30 _ _ rfl b rfl itZ.arr rfl _ _ S.out.rs rfl iSize (arr_one itZ) ?_; intro w10 hb10 hc10 hs10; have HB10 := hid hb10; have HC10 := hid hc10; clear hb10 hc10 hs10))
        refine bodyPost_ret (results_cell_tmp2 rfl _ _ b _ _ _ _ rfl HB10.out Tryd.underlying30 rfl iSize _ _ rfl rfl) rfl ?_
        unfold ItemRes
        rw [HD0.out]
        exact ⟨S.out.done HC10.out, rfl, by decide⟩
      rw [if_neg (by rw [HM2.out]; exact q5)] at HD0
      obtain ⟨N, hN⟩ := Int.eq_ofNat_of_zero_le HR4.out.1
      rw [hN, Int.toNat_natCast] at HD0
      have HNM : Hid (N ≤ m) := by show _ ≤ _; omega
      have HN4 : Hid (N < 4294967296) := by have := HR4.out; show _ < _; omega
      clear HZ HR4
      subst hN
      go_wp2_with fail
      refine (tag_any T _).mono ?_
      rintro e wz ⟨rfl, rfl⟩
      dsimp only
      rw [Q2.out]
      go_wp2_with fail
      refine (of_any p K N _ (by have := HN4.out; omega)).mono ?_
      rintro e wz ⟨rfl, rfl⟩
      dsimp only
      cases q6 : ofB K N with
      | false =>
        rw [if_pos q6] at HD0
        clear q6
        go_wp2_with (first | (refine wpList_build_obj rfl 30 _ rfl #[] rfl _ (iBuild0 _) ?_) | (refine wpList_store_obj rfl 30 _ _ rfl b rfl itZ.arr rfl _ _ S.out.rs rfl iSize (arr_one itZ) ?_; intro w10 hb10 hc10 hs10; have HB10 := hid hb10; have HC10 := hid hc10; clear hb10 hc10 hs10))
        refine bodyPost_ret (results_cell_tmp2 rfl _ _ b _ _ _ _ rfl HB10.out Tryd.underlying30 rfl iSize _ _ rfl rfl) rfl ?_
        unfold ItemRes
        rw [HD0.out]
        exact ⟨S.out.done HC10.out, rfl, by decide⟩
      | true =>
        rw [if_neg (by rw [q6]; decide)] at HD0
        clear q6 q5 q3 q4 q1z d0 d1 dcn
        have HPB : Hid (p ≠ bi) := by have := S.out.eb; have := S.out.pl; have := HBB.out; show p ≠ bi; omega
        have HLT2 : Hid (∀ k off sp, a2 = some ⟨k, off, sp⟩ → k ≠ p ∧ k < b) := fun k off sp e => by
          obtain ⟨off', sp', e'⟩ := HOF2.out k off sp e
          have h1 := HLT.out k off' sp' e'
          have h2 := S.out.eb
          exact ⟨fun h => HO.out k off' sp' e' (by rw [h]; simp), by omega⟩
        obtain ⟨fn, hfn, hcf, hcall⟩ := read_any f dz HDR.out (fun a n c l cnt p w h1 h2 h3 h4 h5 => IH.out (dz + 1) HDZ.out.1 HDZ.out.2 a n c l cnt p w h1 h2 h3 h4 h5) p bi T K a2 N cm ((l.drop 8).take N) (cnt + 1) w7 HBI.out S.out.cn HPB.out (HG2.out.take HNM.out)
          (fun k off sp e hm => by
            have h1 := HLT2.out k off sp e
            rcases List.mem_cons.1 hm with h | h
            · exact h1.1 h
            · have := List.mem_singleton.1 h; have := HBB.out; omega) (by omega) (HT.out.keepC S.out.chg HAP.out)
        have hsl3 : ∀ w, (Instr.slice 27 (.slice a2 m cm) none (some (.int .i64 (N : Int))) none).run Tryd.prog w = .ok (.slice a2 N cm) w := fun w => run_slice_front (P := Tryd.prog) 27 5 1 Tryd.underlying27 (fun w => by kernel_rfl) a2 m cm N (by have := HG2.out.nc; have := HNM.out; omega) w
        rw [hfn]
        have HCALL := hid hcall
        have HCF := hid hcf
        clear hfn hcall hcf
        go_wp2_with (refine wpList_call_val rfl (.tmp 88) #[.tmp 10, .tmp 91, .tmp 92] _ rfl fn #[.pointer (some ⟨p, 0, none⟩)] #[] rfl HCF.out #[.pointer (some ⟨p, 0, none⟩), .pointer (some ⟨bi, 0, none⟩), .slice a2 N cm, .int .i64 dz] (by kernel_rfl) ?_)
        clear hsl3 HCF
        refine HCALL.out.mono ?_
        clear HCALL IH
        intro e w8 hres
        obtain ⟨hch, hres⟩ := hres
        have HGm := hid (HG2.out.keep hch (fun k off sp e hm => by
            have h1 := HLT2.out k off sp e
            rcases List.mem_cons.1 hm with h | h
            · exact h1.1 h
            · have := List.mem_singleton.1 h; have := HBB.out; omega))
        cases hbd : bodyD (decF f) K ((l.drop 8).take N) (cnt + 1) with
        | err z =>
          rw [hbd] at hres HD0
          obtain ⟨rfl, hz⟩ := hres
          dsimp only at HD0 ⊢
          have hcn8 := hid hch
          have HZN := hid hz
          have hzz : (z != 0) = true := by simpa using hz
          have S2 : Hid (w8.heap[b]? = some (.cells itZ.arr 30 (0, 0)) ∧ Chg [p] w w8) := by
            refine ⟨(hch.block b (block_lt S.out.rs) (fun hm => ?_)).trans S.out.rs, S.out.chg.trans hch (fun k hk => ?_)⟩
            · have h1 := S.out.eb; have h2 := S.out.pl; have h3 := HBB.out
              rcases List.mem_cons.1 hm with h | h
              · omega
              · have := List.mem_singleton.1 h; omega
            · rcases List.mem_cons.1 hk with h | h
              · left; rw [h]; simp
              · right; rw [List.mem_singleton.1 h]; have h1 := S.out.eb; have h3 := HBB.out; omega
          have HEB := hid S.out.eb
          clear S hcn8 hch hz hbd
          go_wp2_with (first | (refine wpList_build_obj rfl 30 _ rfl #[] rfl _ (iBuild0 _) ?_) | (refine wpList_store_obj rfl 30 _ _ rfl b rfl itZ.arr rfl _ _ S2.out.1 rfl iSize (arr_one itZ) ?_; intro w10 hb10 hc10 hs10; have HB10 := hid hb10; have HC10 := hid hc10; clear hb10 hc10 hs10))
          refine bodyPost_ret (results_cell_tmp2 rfl _ _ b _ _ _ _ rfl HB10.out Tryd.underlying30 rfl iSize _ _ rfl rfl) rfl ?_
          unfold ItemRes
          rw [HD0.out]
          exact ⟨S2.out.2.trans HC10.out (fun q hq => by right; rw [List.mem_singleton.1 hq]; have := HEB.out; omega), rfl, HZN.out⟩
        | ok n2 d2 ks2 c2 =>
          rw [hbd] at hres HD0
          obtain ⟨rfl, v, hvi, hvb, hvo, hvf, hcn⟩ := hres
          dsimp only at HD0 ⊢
          have S2 := hid (S.out.turn hch (fun q hq => by
            rcases List.mem_cons.1 hq with h | h
            · exact .inl h
            · exact .inr (by rw [List.mem_singleton.1 h]; exact HBB.out)) hcn)
          have HVI := hid hvi; have HVB := hid hvb; have HVO := hid hvo
          have HVF := hid (fun k hk => Nat.lt_of_lt_of_le (block_lt S.out.rs) (hvf k hk))
          clear S hch hbd hvi hvb hvo hvf hcn HBI HG2
          have S := S2
          clear S2
          go_wp2_with fail
          refine (up_any N _ (by have := HN4.out; omega)).mono ?_
          rintro e wz ⟨rfl, rfl⟩
          dsimp only
          have HUP := hid (up8_ge N)
          generalize up8 N = E at *
          have HEN : Hid (E < 4294967304) := by have h1 := HUP.out; have h2 := HN4.out; show _ < _; omega
          go_wp2_with fail
          go_loopw [16] (fun y wr => PdSt (l.drop 8) N E w8 y wr) (fun y _ => E - (intOf y).toNat)
          case atStart => exact ⟨⟨N, rfl, Nat.le_refl _, HUP.out.1, rfl, rfl⟩⟩
          case round =>
            obtain ⟨j, rfl, hj1, hj2, hpad, rfl⟩ := hrel.ex
            clear hrel
            have HPD := hid hpad
            clear hpad
            by_cases hjE : j < E
            · have hjz : (j : Int) < (E : Int) := by omega
              obtain ⟨g, hg⟩ : ∃ g, E - j = g + 1 := ⟨E - j - 1, by omega⟩
              have HPS := hid HPD.out
              rw [hg, pad_step, HM2.out] at HPS
              by_cases hjm : m ≤ j
              · have hjmz : ¬ ((j : Int) < (m : Int)) := by omega
                have hjmz2 : (m : Int) ≤ (j : Int) := by omega
                rw [if_pos hjm] at HPS
                rw [← HPS.out] at HD0
                clear HPD
                go_wp2_with (first | (refine wpList_build_obj rfl 30 _ rfl #[] rfl _ (iBuild0 _) ?_) | (refine wpList_store_obj rfl 30 _ _ rfl b rfl itZ.arr rfl _ _ S.out.rs rfl iSize (arr_one itZ) ?_; intro w10 hb10 hc10 hs10; have HB10 := hid hb10; have HC10 := hid hc10; clear hb10 hc10 hs10))
                refine bodyPost_ret (results_cell_tmp2 rfl _ _ b _ _ _ _ rfl HB10.out Tryd.underlying30 rfl iSize _ _ rfl rfl) rfl ?_
                unfold ItemRes
                rw [HD0.out]
                exact ⟨S.out.done HC10.out, rfl, by decide⟩
              · have hjmz : (j : Int) < (m : Int) := by omega
                have hjb : (j : Int) < 4294967304 := by have := HEN.out; omega
                rw [if_neg hjm] at HPS
                obtain ⟨bq, off, ha2', hcc⟩ := HGm.out.rd.cell j (by omega)
                subst ha2'
                have hcell := hcc j (by omega)
                have hcell2 : wr.cell? ⟨bq, off + j, none⟩ = some (.int .u8 (((l.drop 8).getD j 0).toNat : Int)) := hcell
                clear hcc hcell
                by_cases hx : (l.drop 8).getD j 0 = 0
                · rw [if_pos hx] at HPS
                  rw [hx] at hcell2
                  have hcell3 : wr.cell? ⟨bq, off + j, none⟩ = some (.int .u8 0) := hcell2
                  clear hcell2 hx
                  go_wp2_with fail
                  have HRR : PdSt (l.drop 8) N E wr (.int .i64 ((j : Int) + 1)) wr := ⟨⟨j + 1, by go_num, by omega, by omega, by rw [show E - (j + 1) = g by omega]; exact HPS.out, rfl⟩⟩
                  go_roundw
                  case rel => first | exact HRR | ((repeat apply Exists.intro); exact HRR) | ((repeat apply Exists.intro); exact ⟨HRR, rfl⟩)
                  case measure => (simp [intOf] <;> omega)
                · rw [if_neg hx] at HPS
                  rw [← HPS.out] at HD0
                  obtain ⟨z, hz⟩ : ∃ z : Int, z = (((l.drop 8).getD j 0).toNat : Int) := ⟨_, rfl⟩
                  rw [← hz] at hcell2
                  have hzn : (z != 0) = true := by
                    have : z ≠ 0 := fun h0 => hx (by rw [h0] at hz; exact UInt8.toNat_inj.1 (by show _ = 0; omega))
                    simpa using this
                  clear hx hz HPD
                  go_wp2_with (first | (refine wpList_build_obj rfl 30 _ rfl #[] rfl _ (iBuild0 _) ?_) | (refine wpList_store_obj rfl 30 _ _ rfl b rfl itZ.arr rfl _ _ S.out.rs rfl iSize (arr_one itZ) ?_; intro w10 hb10 hc10 hs10; have HB10 := hid hb10; have HC10 := hid hc10; clear hb10 hc10 hs10))
                  refine bodyPost_ret (results_cell_tmp2 rfl _ _ b _ _ _ _ rfl HB10.out Tryd.underlying30 rfl iSize _ _ rfl rfl) rfl ?_
                  unfold ItemRes
                  rw [HD0.out]
                  exact ⟨S.out.done HC10.out, rfl, by decide⟩
            · obtain rfl : j = E := by omega
              have hjz : ¬ ((j : Int) < (j : Int)) := by omega
              have hpn := HPD.out
              rw [Nat.sub_self, show padE (l.drop 8) 0 j = none from rfl] at hpn
              rw [← hpn] at HD0
              dsimp only at HD0
              have hEm : j ≤ m := by
                have h1 := (pad_none _ _ _ (by rw [HM2.out]; exact HNM.out) hpn.symm).1
                rw [HM2.out] at h1
                have h2 := HUP.out
                omega
              obtain ⟨a3, ha3, hg3, hof3⟩ := HGm.out.drop (k := j) hEm
              have hsl4 : ∀ w, (Instr.slice 27 (.slice a2 m cm) (some (.int .i64 (j : Int))) none none).run Tryd.prog w = .ok (.slice a3 (m - j) (cm - j)) w := fun w => by rw [← ha3]; exact run_slice_back (P := Tryd.prog) 27 5 1 Tryd.underlying27 (fun w => by kernel_rfl) a2 m cm j hEm w
              have HG3 := hid hg3; have HOF3 := hid hof3
              clear ha3 hg3 hof3 hpn HPD hjz
              go_upto_region 28 with (fail)
              have HBB2 := hid HBB.out
              refine wp_region_eachX (m := 5) (Chg [b]) [.eq (.agg v.arr), .eq (.slice a2 m cm), .eq (.int .i64 (j : Int)), .eq (.slice a3 (m - j) (cm - j)), .eq (undef)] (ReX 30 b 4 v.arr) (by kernel_rfl) (by kernel_rfl) (by kernel_rfl) (by kernel_rfl) (Chg.same1) (by exact (Chg.refl _ _).drew) (by exact ReX.start (V := v.arr) S.out.rs rfl 7) ?_ ?_
              · all_goals
                  refine each_5 ?_ ?_ ?_ ?_ ?_ (each_n)
                  · intro w1 hg listed up hx Ar seen
                    have s10 := seen.sl 10 (.pointer (some ⟨bi, 0, none⟩))
                    refine doesY_plain rfl fun K Q' hK => ?_
                    refine wp_load_row 30 _ rfl bi (by simp [Act.eval, s10]) _ _ _ _ ((hg.block _ (block_lt HVB.out) (fun hm => by have h1 := List.mem_singleton.1 hm; have h2 := HBB2.out; omega)).trans HVB.out) Tryd.underlying30 rfl iSize ?_
                    exact hK _ _ (Chg.refl _ _) (hx.same (by kernel_rfl)) rfl
                  · intro w1 hg listed up hx Ar seen
                    have s1 := seen.sl 1 (.slice a2 m cm)
                    refine doesY_plain rfl fun K Q' hK => ?_
                    go_simp; exact hK _ _ (Chg.refl _ _) (hx.same (by kernel_rfl)) rfl
                  · intro w1 hg listed up hx Ar seen
                    have s15 := seen.sl 15 (.int .i64 (j : Int))
                    refine doesY_plain rfl fun K Q' hK => ?_
                    go_simp; exact hK _ _ (Chg.refl _ _) (hx.same (by kernel_rfl)) rfl
                  · intro w1 hg listed up hx Ar seen
                    have e1 := seen.de 1 120
                    have e2 := seen.de 2 121
                    refine doesY_plain rfl fun K Q' hK => ?_
                    have hs4 := hsl4
                    go_simp; exact hK _ _ (Chg.refl _ _) (hx.same (by kernel_rfl)) rfl
                  · intro w1 hg listed up hx Ar seen
                    have e0 := seen.de 0 119
                    have s6 := seen.sl 6 (.pointer (some ⟨b, 0, none⟩))
                    refine doesY_plain rfl fun K Q' hK => ?_
                    obtain ⟨C, hC, hCs⟩ := hx.there
                    refine wp_store_obj 30 _ _ rfl b (by simp [Act.eval, s6]) _ (by simp [Act.eval, e0]) C _ hC hCs iSize (arr_one v) ?_
                    intro u hb1 hc1 hs1
                    exact hK undef _ hc1 (hx.one (by rw [up.size]; decide) hb1) rfl
              intro w1 hg listed hl hx
              refine upon_w' (js := [0, 1, 2, 3, 4]) (by rfl) ?_
              refine upon_e (some 119) (upon_e (some 120) (upon_e (some 121) (upon_e (some 122) (upon_e none (upon_n ?_)))))
              have HB10 := hid (hx.fin (hl 4 (by decide)))
              have HC10 := hid hg
              have HVO2 := hid HVO.out
              have HG4 := hid HG3.out
              clear hg HG3 hsl4 hx hl
              go_simp
              go_wp2_with fail
              refine bodyPost_ret (results_cell_tmp2 rfl _ _ b _ _ _ _ rfl HB10.out Tryd.underlying30 rfl iSize _ _ rfl rfl) rfl ?_
              unfold ItemRes
              rw [HD0.out]
              refine ⟨S.out.done HC10.out, v, a3, m - j, cm - j, rfl, HVI.out, ItV.ok.keep HC10.out HVO2.out (fun k hk hm => ?_), fun k hk => ?_, HG4.out.keep HC10.out (fun k off sp e hm => ?_), fun k off sp e => ?_, (HC10.out.block p (block_lt S.out.cn) (fun hm => ?_)).trans S.out.cn⟩
              · have h1 := HVF.out k hk; have h2 := List.mem_singleton.1 hm; omega
              · have h1 := HVF.out k hk; have h2 := S.out.eb; omega
              · obtain ⟨off', sp', e'⟩ := HOF3.out k off sp e
                have h1 := (HLT2.out k off' sp' e').2; have h2 := List.mem_singleton.1 hm; omega
              · obtain ⟨off', sp', e'⟩ := HOF3.out k off sp e
                exact HOF2.out k off' sp' e'
              · have h1 := S.out.eb; have h2 := S.out.pl; have h3 := List.mem_singleton.1 hm; omega
/-- What Decode answers. -/
def DecRes (r : Itm × Int) (w : World) (e : Ending) (w' : World) : Prop :=
  Below w.heap.size w w' ∧ ∃ v : ItV, e = .returned (.tuple #[.agg v.arr, .int .i64 r.2]) ∧ v.it = r.1 ∧ v.ok w' ∧ ∀ k ∈ v.foot, w.heap.size ≤ k
theorem Decode_any (a : Option Addr) (n c : Nat) (l : List UInt8) (w : World) (hg : GB w a n c l) (hT : UT w) : Calls Tryd.prog 8 #[.slice a n c] w (DecRes (decP l) w) := by
  have hb0 : Below w.heap.size w (w.alloc (.cells itZ.arr 30)) := (Below.refl _ _).alloc (Nat.le_refl _) _
  have HRS := hid (block_new w (.cells itZ.arr 30))
  have HB := hid hb0
  have HG := hid (hg.below hb0)
  have HT := hid (hT.below hb0)
  have HL := hid hg.rd.len
  clear hb0 hg hT
  obtain ⟨b, hbe⟩ : ∃ b, b = w.heap.size := ⟨_, rfl⟩
  have HBE := hid hbe
  go_enter Tryd.func8, Tryd.ntmps8
  go_upto_region 1 with (refine wpList_alloc_obj rfl 30 rfl _ iZero ?_)
  go_simp
  rw [← hbe] at HRS ⊢
  clear hbe
  generalize w.alloc (.cells itZ.arr 30) = W at *
  by_cases h8 : 8192 < n
  · have h8z : (8192 : Int) < (n : Int) := by omega
    have HD : Hid (decP l = (itZ.it, 6)) := by have := HL.out; show _ = _; unfold decP; rw [if_pos (by omega)]
    clear h8
    go_wp2_with (first | (refine wpList_build_obj rfl 30 _ rfl #[] rfl _ (iBuild0 _) ?_) | (refine wpList_store_obj rfl 30 _ _ rfl b rfl itZ.arr rfl _ _ HRS.out rfl iSize (arr_one itZ) ?_; intro w10 hb10 hc10 hs10; have HB10 := hid hb10; have HC10 := hid hc10; clear hb10 hc10 hs10))
    refine bodyPost_ret (results_cell_tmp rfl _ _ b _ _ _ _ rfl HB10.out Tryd.underlying30 rfl iSize _ rfl) rfl ?_
    unfold DecRes
    rw [HD.out]
    refine ⟨HB.out.trans (HC10.out.below (fun k hk => by rw [List.mem_singleton.1 hk]; have := HBE.out; omega) HB.out.size), itZ, rfl, rfl, ItV.ok_iff.2 ⟨SlC.nil _, SlR.nil _ _, fun x hx => by cases hx⟩, fun k hk => by simp [ItV.foot, itZ, Sl.blk, footAll] at hk⟩
  · have h8z : ¬ (8192 : Int) < (n : Int) := by omega
    have hb1 : Below W.heap.size W (W.alloc (.cells #[.int .i64 0] 77)) := (Below.refl _ _).alloc (Nat.le_refl _) _
    have HCN := hid (block_new W (.cells #[.int .i64 0] 77))
    have HRS1 := hid ((hb1.block _ (block_lt HRS.out)).trans HRS.out)
    have HB1 := hid (HB.out.trans (Below.mono hb1 HB.out.size))
    have HG1 := hid (HG.out.below hb1)
    have HT1 := hid (HT.out.below hb1)
    have HLT := hid HG.out.lt
    have HBP := hid (block_lt HRS.out)
    have HP1 := hid HB.out.size
    have HD0 : Hid (decP l = match decF 12 l 0 with | .err e => (itZ.it, e) | .ok i r _ => if r = [] then (i, 0) else (itZ.it, 5)) := by have := HL.out; show _ = _; exact if_neg (by omega)
    clear hb1 HRS HB HG HT h8
    go_upto_region 4 with (fail)
    obtain ⟨p, hp⟩ : ∃ p, p = W.heap.size := ⟨_, rfl⟩
    rw [← hp] at HCN HBP HP1 HLT ⊢
    clear hp
    generalize W.alloc (.cells #[.int .i64 0] 77) = W1 at *
    go_wp2_with fail
    refine (ritem_any 12 1 rfl (by decide) a n c l 0 p _ HG1.out (fun q off sp e hm => by have := HLT.out q off sp e; have := List.mem_singleton.1 hm; omega) HCN.out (by decide) HT1.out).mono ?_
    intro e w2 hres
    unfold ItemRes at hres
    obtain ⟨hch, hres⟩ := hres
    have HRS2 := hid ((hch.block b (block_lt HRS1.out) (fun hm => by have := List.mem_singleton.1 hm; have := HBP.out; omega)).trans HRS1.out)
    have HB2 := hid (HB1.out.trans (hch.below (fun k hk => by rw [List.mem_singleton.1 hk]; exact HP1.out) HB1.out.size))
    have HS2 := hid (Nat.le_trans HB1.out.size hch.size)
    clear hch HRS1 HB1
    cases hd : decF 12 l 0 with
    | err z =>
      rw [hd] at hres HD0
      dsimp only at HD0
      obtain ⟨rfl, hz⟩ := hres
      dsimp only
      have hzz : (z != 0) = true := by simpa using hz
      clear hd hz
      go_upto_region 5 with (first | (refine wpList_alloc_obj rfl 30 rfl _ iZero ?_) | (refine wpList_store_obj rfl 30 _ _ rfl w2.heap.size rfl itZ.arr rfl _ _ (block_new w2 _) rfl iSize (arr_one itZ) ?_; intro w5 hb5 hc5 hs5; have KB := hid hb5; have HC5 := hid hc5; clear hb5 hc5 hs5))
      have hbel : Below w2.heap.size w2 w5 := ((Below.refl _ w2).alloc (Nat.le_refl _) _).trans (HC5.out.below (fun k hk => by rw [List.mem_singleton.1 hk]; exact Nat.le_refl _) (by simp))
      have HRS3 := hid ((hbel.block _ (block_lt HRS2.out)).trans HRS2.out)
      have HB3 := hid (HB2.out.trans (Below.mono hbel HB2.out.size))
      clear hbel HC5 HRS2 HB2
      go_wp2_with (first | (refine wpList_build_obj rfl 30 _ rfl #[] rfl _ (iBuild0 _) ?_) | (refine wpList_store_obj rfl 30 _ _ rfl b rfl itZ.arr rfl _ _ HRS3.out rfl iSize (arr_one itZ) ?_; intro w10 hb10 hc10 hs10; have HB10 := hid hb10; have HC10 := hid hc10; clear hb10 hc10 hs10))
      refine bodyPost_ret (results_cell_tmp rfl _ _ b _ _ _ _ rfl HB10.out Tryd.underlying30 rfl iSize _ rfl) rfl ?_
      unfold DecRes
      rw [HD0.out]
      refine ⟨HB3.out.trans (HC10.out.below (fun k hk => by rw [List.mem_singleton.1 hk]; have := HBE.out; omega) HB3.out.size), itZ, rfl, rfl, ItV.ok_iff.2 ⟨SlC.nil _, SlR.nil _ _, fun x hx => by cases hx⟩, fun k hk => by simp [ItV.foot, itZ, Sl.blk, footAll] at hk⟩
    | ok i r cc =>
      rw [hd] at hres HD0
      dsimp only at HD0
      obtain ⟨v, a2, n2, c2, rfl, hvi, hvo, hvf, hg2, hof, hcn⟩ := hres
      dsimp only
      have HVI := hid hvi
      have HVF := hid (fun k hk => by have h1 := hvf k hk; have h2 := HBP.out; have h3 := block_lt HCN.out; exact (show b < k by omega))
      have HRL := hid hg2.rd.len
      have HVO := hid hvo
      clear hd hvi hvo hvf hg2 hof hcn
      go_upto_region 5 with (first | (refine wpList_alloc_obj rfl 30 rfl _ iZero ?_) | (refine wpList_store_obj rfl 30 _ _ rfl w2.heap.size rfl v.arr rfl _ _ (block_new w2 _) rfl iSize (arr_one v) ?_; intro w5 hb5 hc5 hs5; have KB := hid hb5; have HC5 := hid hc5; clear hb5 hc5 hs5))
      have hbel : Below w2.heap.size w2 w5 := ((Below.refl _ w2).alloc (Nat.le_refl _) _).trans (HC5.out.below (fun k hk => by rw [List.mem_singleton.1 hk]; exact Nat.le_refl _) (by simp))
      have HRS3 := hid ((hbel.block _ (block_lt HRS2.out)).trans HRS2.out)
      have HB3 := hid (HB2.out.trans (Below.mono hbel HB2.out.size))
      have HVO3 := hid (HVO.out.below hbel)
      clear hbel HC5 HRS2 HB2 HVO
      generalize w2.heap.size = kb at *
      by_cases hr : r = []
      · rw [if_pos hr] at HD0
        obtain rfl : n2 = 0 := by have := HRL.out; rw [hr] at this; exact this.symm
        clear hr
        go_wp2_with (first | (refine wpList_load_row rfl 30 _ rfl kb rfl _ _ _ _ KB.out Tryd.underlying30 rfl iSize ?_) | (refine wpList_store_obj rfl 30 _ _ rfl b rfl v.arr rfl _ _ HRS3.out rfl iSize (arr_one v) ?_; intro w10 hb10 hc10 hs10; have HB10 := hid hb10; have HC10 := hid hc10; clear hb10 hc10 hs10))
        refine bodyPost_ret (results_cell_tmp rfl _ _ b _ _ _ _ rfl HB10.out Tryd.underlying30 rfl iSize _ rfl) rfl ?_
        unfold DecRes
        rw [HD0.out]
        refine ⟨HB3.out.trans (HC10.out.below (fun k hk => by rw [List.mem_singleton.1 hk]; have := HBE.out; omega) HB3.out.size), v, rfl, HVI.out, ItV.ok.keep HC10.out HVO3.out (fun k hk hm => by have := HVF.out k hk; have := List.mem_singleton.1 hm; omega), fun k hk => by have := HVF.out k hk; have := HBE.out; omega⟩
      · rw [if_neg hr] at HD0
        have hn2 : (0 : Int) < (n2 : Int) := by
          have h1 := HRL.out
          have h2 : r.length ≠ 0 := fun h => hr (List.length_eq_zero_iff.1 h)
          omega
        clear hr
        go_wp2_with (first | (refine wpList_build_obj rfl 30 _ rfl #[] rfl _ (iBuild0 _) ?_) | (refine wpList_store_obj rfl 30 _ _ rfl b rfl itZ.arr rfl _ _ HRS3.out rfl iSize (arr_one itZ) ?_; intro w10 hb10 hc10 hs10; have HB10 := hid hb10; have HC10 := hid hc10; clear hb10 hc10 hs10))
        refine bodyPost_ret (results_cell_tmp rfl _ _ b _ _ _ _ rfl HB10.out Tryd.underlying30 rfl iSize _ rfl) rfl ?_
        unfold DecRes
        rw [HD0.out]
        refine ⟨HB3.out.trans (HC10.out.below (fun k hk => by rw [List.mem_singleton.1 hk]; have := HBE.out; omega) HB3.out.size), itZ, rfl, rfl, ItV.ok_iff.2 ⟨SlC.nil _, SlR.nil _ _, fun x hx => by cases hx⟩, fun k hk => by simp [ItV.foot, itZ, Sl.blk, footAll] at hk⟩
end Go.Proofs.YteenglgnakenmaaDoor
