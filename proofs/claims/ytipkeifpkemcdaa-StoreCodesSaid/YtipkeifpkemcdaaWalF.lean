/- wal: the works of a log, as function values; they are done one behind the other. -/
import Derived.Test.YtipkeifpkemcdaaWal3
import Derived.Test.YtipkeifpkemcdaaDisk4
import Derived.Test.YtipkeifpkemcdaaSl
namespace Go.Proofs.Ytipkeifpkemcdaa
open Go.RowKit
set_option linter.unusedVariables false
set_option linter.unusedSimpArgs false
set_option maxRecDepth 100000
set_option maxHeartbeats 3200000
theorem wp_call_fn {P : Program} {o : Oper} {a : Act} {w : World} {K : Act → World → Prop} {Q : Exit → Act → World → Prop} (x : Operand) (xs : Array Operand) (ats : Array TypeId)
    (ho : o.op = .call { callee := .value x, args := xs, argTypes := ats }) (fn : FuncId) (first cap : Array Value) (hx : a.eval x = .func (.func fn) first cap) (hcf : ∀ (args : Array Value) (W : World), (callFunc fn args).run P W = .ok (.enter fn args) W)
    (args : Array Value) (hargs : first ++ xs.map a.eval ++ cap = args)
    (h : Calls P fn args w fun | .returned v, w'' => K (a.put o.dst v) w'' | .panicked c, w'' => Q (.panic c) a w'' | .outgrown, _ => LetsOut Q) : o.wp P a w K Q := by
  have e : (execOp a.eval o).run P w = .ok (.enter fn args) w := by
    unfold execOp
    simp only [ho, resolve, hx, Deferred.ofValue, invoke, Sem.run_bind, Sem.run_pure, Result.andThen_ok, hcf, hargs]
  unfold Oper.wp
  rw [e]
  exact h
theorem wpList_call_fn {P : Program} {ops : Array Oper} {rest : List Oper} {o : Oper} {a : Act} {w : World} {Q : Exit → Act → World → Prop} (hg : o.guard = none) (x : Operand) (xs : Array Operand) (ats : Array TypeId)
    (ho : o.op = .call { callee := .value x, args := xs, argTypes := ats }) (fn : FuncId) (first cap : Array Value) (hx : a.eval x = .func (.func fn) first cap) (hcf : ∀ (args : Array Value) (W : World), (callFunc fn args).run P W = .ok (.enter fn args) W)
    (args : Array Value) (hargs : first ++ xs.map a.eval ++ cap = args)
    (h : Calls P fn args w fun | .returned v, w'' => wpList P ops Q rest (a.put o.dst v) w'' | .panicked c, w'' => Q (.panic c) a w'' | .outgrown, _ => LetsOut Q) : wpList P ops Q (o :: rest) a w := by
  refine wpList_plain hg fun K hK => wp_call_fn x xs ats ho fn first cap hx hcf args hargs (h.mono ?_)
  intro e w' he
  cases e with
  | returned v => exact hK _ _ he
  | panicked c => exact he
  | outgrown => exact he
/-- A work of a log. -/
inductive Wk where
  | wr (k : Nat) (d : List UInt8)
  | fl
deriving Inhabited
def Wk.go (s : DSt) : Wk → DSt
  | .wr k d => s.write k d
  | .fl => s.flush
def Wk.fit (n : Nat) : Wk → Prop
  | .wr k d => k < n
  | .fl => True
/-- Works that are done, till one is wrong. -/
def runW : List Wk → DSt → DSt × Bool
  | [], s => (s, true)
  | x :: l, s => if s.can = true then runW l (x.go s) else (x.go s, false)
theorem DSt.work_sec (s : DSt) : s.work.sec = s.sec ∧ s.work.pend = s.pend := by unfold DSt.work; split <;> exact ⟨rfl, rfl⟩
theorem done_len (l : List (Nat × List UInt8)) : ∀ (sec : List (List UInt8 × Bool)), (done sec l).length = sec.length := by
  induction l with
  | nil => intro sec; rfl
  | cons x l ih => intro sec; show (done (sec.set x.1 (x.2, false)) l).length = _; rw [ih, List.length_set]
theorem DSt.work_works (s : DSt) : s.work.works ≤ s.works + 1 := by unfold DSt.work; split <;> simp
/-- What a work leaves. -/
theorem go_small (x : Wk) (s : DSt) : (x.go s).sec.length = s.sec.length ∧ (x.go s).works ≤ s.works + 1 ∧ (x.go s).pend.length ≤ s.pend.length + 1 := by
  have h1 := s.work_sec
  have h2 := s.work_works
  cases x with
  | wr k d =>
    show (s.write k d).sec.length = _ ∧ (s.write k d).works ≤ _ ∧ (s.write k d).pend.length ≤ _
    unfold DSt.write
    split
    · refine ⟨by show s.work.sec.length = _; rw [h1.1], h2, ?_⟩
      show (s.pend ++ [(k, d)]).length ≤ _
      rw [List.length_append]; simp
    · exact ⟨by rw [h1.1], h2, by rw [h1.2]; omega⟩
  | fl =>
    show s.flush.sec.length = _ ∧ s.flush.works ≤ _ ∧ s.flush.pend.length ≤ _
    unfold DSt.flush
    split
    · exact ⟨by show (done s.sec s.pend).length = _; rw [done_len], h2, by show ([] : List (Nat × List UInt8)).length ≤ _; simp⟩
    · exact ⟨by rw [h1.1], h2, by rw [h1.2]; omega⟩
/-- A function value that does a work; what it holds stands in blocks of P. -/
def FnR (w : World) (pl p : Nat) (P : Nat → Prop) (v : Value) : Wk → Prop
  | .wr k d => ∃ (lc kc dc : Nat) (a : Option Addr) (c : Nat), v = .func (.func 101) #[] #[.pointer (some ⟨lc, 0, none⟩), .pointer (some ⟨kc, 0, none⟩), .pointer (some ⟨dc, 0, none⟩)] ∧
      w.heap[lc]? = some (.cells #[.pointer (some ⟨pl, 0, none⟩)] 88 (0, 0)) ∧ w.heap[kc]? = some (.cells #[.int .i64 (k : Int)] 3 (0, 0)) ∧ w.heap[dc]? = some (.cells #[.slice a 64 c] 24 (0, 0)) ∧
      RdB w a 64 d ∧ (a = none → c = 0) ∧ P lc ∧ P kc ∧ P dc ∧ ∀ b off sp, a = some ⟨b, off, sp⟩ → P b
  | .fl => v = .func (.func 99) #[.pointer (some ⟨p, 0, none⟩)] #[]
theorem FnR.keep {w w' : World} {pl p : Nat} {P : Nat → Prop} {v : Value} {x : Wk} {G : List Nat} (h : FnR w pl p P v x) (hc : Chg G w w') (hG : ∀ q ∈ G, ¬ P q) : FnR w' pl p P v x := by
  cases x with
  | fl => exact h
  | wr k d =>
    obtain ⟨lc, kc, dc, a, c, e, h1, h2, h3, h4, h5, h6, h7, h8, h9⟩ := h
    exact ⟨lc, kc, dc, a, c, e, (hc.block _ (block_lt h1) (fun hm => hG _ hm h6)).trans h1, (hc.block _ (block_lt h2) (fun hm => hG _ hm h7)).trans h2, (hc.block _ (block_lt h3) (fun hm => hG _ hm h8)).trans h3, hc.rdB h4 (fun b off sp hb hm => hG _ hm (h9 b off sp hb)), h5, h6, h7, h8, h9⟩
theorem FnR.wide {w : World} {pl p : Nat} {P P' : Nat → Prop} {v : Value} {x : Wk} (h : FnR w pl p P v x) (hP : ∀ q, P q → P' q) : FnR w pl p P' v x := by
  cases x with
  | fl => exact h
  | wr k d =>
    obtain ⟨lc, kc, dc, a, c, e, h1, h2, h3, h4, h5, h6, h7, h8, h9⟩ := h
    exact ⟨lc, kc, dc, a, c, e, h1, h2, h3, h4, h5, hP _ h6, hP _ h7, hP _ h8, fun b off sp hb => hP _ (h9 b off sp hb)⟩
theorem sec1_any (pl p lc kc dc k : Nat) (a : Option Addr) (c : Nat) (d : List UInt8) (s : DSt) (F : List Nat) (e0 : Nat) (a0 u0 at0 : Int) (dead : Bool) (w : World)
    (h1 : w.heap[lc]? = some (.cells #[.pointer (some ⟨pl, 0, none⟩)] 88 (0, 0))) (h2 : w.heap[kc]? = some (.cells #[.int .i64 (k : Int)] 3 (0, 0))) (h3 : w.heap[dc]? = some (.cells #[.slice a 64 c] 24 (0, 0)))
    (hl : w.heap[pl]? = some (.cells (logArr p e0 a0 u0 at0 dead) 118 (0, 0))) (hr : RdB w a 64 d) (hcn : a = none → c = 0) (hoff : ∀ b off sp, a = some ⟨b, off, sp⟩ → b ∉ F) (h : Dk w p s F) (hat : k < s.sec.length) (hw : s.works < 4611686018427387904) (hpn : s.pend.length < 1099511627776) :
    Calls Try.prog 101 #[.pointer (some ⟨lc, 0, none⟩), .pointer (some ⟨kc, 0, none⟩), .pointer (some ⟨dc, 0, none⟩)] w fun e w' => e = .returned (.int .i64 (if s.can then 0 else 9)) ∧ Chg F w w' ∧ ∃ F', Dk w' p (s.write k d) F' ∧ Fresh F F' w := by
  have H1 := hid h1; have H2 := hid h2; have H3 := hid h3; have HL := hid hl; have HR := hid hr; have HD := hid h
  obtain ⟨ec, hec⟩ : ∃ z : Int, (if s.can = true then (0 : Int) else 9) = z := ⟨_, rfl⟩
  rw [hec]
  have HEC := hid hec
  clear h1 h2 h3 hl hr h hec
  go_enter Try.func101, Try.ntmps101
  go_upto_region 1 with (fail)
  refine wp_region_each 6 [.eq (.pointer (some ⟨pl, 0, none⟩)), .eq (.pointer (some ⟨pl, 0, none⟩)), .eq (.pointer (some ⟨pl, 0, none⟩)), .eq (.pointer (some ⟨p, 0, none⟩)), .eq (.int .i64 (k : Int)), .eq (.slice a 64 c)] (by kernel_rfl) (by kernel_rfl) (by kernel_rfl) (by kernel_rfl) ?_ ?_
  · as_aux_lemma =>
      refine each_5 ?_ ?_ ?_ ?_ ?_ (each_c ?_ (each_n))
      · intro w1 hg Ar seen
        have s0 := seen.sl 0 (.pointer (some ⟨lc, 0, none⟩))
        refine does_plain rfl fun K Q' hK => ?_
        have hc := cell_of_block (j := 0) ((hg.block _ (block_lt H1.out)).trans H1.out) rfl
        go_simp; exact hK _ _ (Grow.refl _) rfl
      · intro w1 hg Ar seen
        have e0 := seen.de 0 4
        refine does_plain rfl fun K Q' hK => ?_
        go_simp; exact hK _ _ (Grow.refl _) rfl
      · intro w1 hg Ar seen
        have e1 := seen.de 1 5
        refine does_plain rfl fun K Q' hK => ?_
        go_simp; exact hK _ _ (Grow.refl _) rfl
      · intro w1 hg Ar seen
        have e2 := seen.de 2 6
        refine does_plain rfl fun K Q' hK => ?_
        have hc := cell_of_block (j := 0) ((hg.block _ (block_lt HL.out)).trans HL.out) rfl
        go_simp; exact hK _ _ (Grow.refl _) rfl
      · intro w1 hg Ar seen
        have s1 := seen.sl 1 (.pointer (some ⟨kc, 0, none⟩))
        refine does_plain rfl fun K Q' hK => ?_
        have hc := cell_of_block (j := 0) ((hg.block _ (block_lt H2.out)).trans H2.out) rfl
        go_simp; exact hK _ _ (Grow.refl _) rfl
      · intro w1 hg Ar seen
        have s2 := seen.sl 2 (.pointer (some ⟨dc, 0, none⟩))
        refine does_plain rfl fun K Q' hK => ?_
        have hc := cell_of_block (j := 0) ((hg.block _ (block_lt H3.out)).trans H3.out) rfl
        go_simp; exact hK _ _ (Grow.refl _) rfl
  intro w1 hg
  refine upon_w' (js := [0, 1, 2, 3, 4, 5]) (by rfl) ?_
  refine upon_e (some 4) (upon_e (some 5) (upon_e (some 6) (upon_e (some 7) (upon_e (some 8) (upon_e (some 9) (upon_n ?_))))))
  have HG := hid hg
  clear hg
  go_simp
  go_wp2_with fail
  have HR2 := hid (HR.out.below HG.out)
  refine (write_any p k s F a c d _ (HD.out.below HG.out) HR2.out hcn (fun w2 hc2 => hc2.rdB HR2.out hoff) hat hw hpn).mono ?_
  rw [HEC.out]
  rintro e w3 ⟨rfl, hc3, F', hF', hfr⟩
  have HC3 := hid hc3; have HF3 := hid hF'; have HFR := hid hfr
  clear hc3 hF' hfr
  go_wp2_with fail
  go_ret
  refine ⟨rfl, (Chg.of_below HG.out F).trans HC3.out (fun q hq => .inl hq), F', HF3.out, fun q hq => ?_⟩
  rcases HFR.out q hq with h' | h'
  · exact .inl h'
  · exact .inr (Nat.le_trans HG.out.size h')
/-- A function value is called. -/
theorem fn_any (x : Wk) (v : Value) (pl p : Nat) (P : Nat → Prop) (s : DSt) (F : List Nat) (e0 : Nat) (a0 u0 at0 : Int) (dead : Bool) (w : World) (hv : FnR w pl p P v x) (hF : ∀ q, P q → q ∉ F)
    (hl : w.heap[pl]? = some (.cells (logArr p e0 a0 u0 at0 dead) 118 (0, 0))) (h : Dk w p s F) (hx : x.fit s.sec.length) (hw : s.works < 4611686018427387904) (hpn : s.pend.length < 1099511627776) :
    ∃ fn first cap, v = .func (.func fn) first cap ∧ (∀ (args : Array Value) (W : World), (callFunc fn args).run Try.prog W = .ok (.enter fn args) W) ∧
      Calls Try.prog fn (first ++ #[] ++ cap) w fun e w' => e = .returned (.int .i64 (if s.can then 0 else 9)) ∧ Chg F w w' ∧ ∃ F', Dk w' p (x.go s) F' ∧ Fresh F F' w := by
  cases x with
  | fl =>
    refine ⟨_, _, _, hv, (fun _ _ => by kernel_rfl), ?_⟩
    by_cases hc : s.can = true
    · rw [if_pos hc]; exact flush_can p s F w h hc hw
    · rw [if_neg hc]; exact flush_cannot p s F w h (by simpa using hc)
  | wr k d =>
    obtain ⟨lc, kc, dc, a, c, e, h1, h2, h3, h4, h5, h6, h7, h8, h9⟩ := hv
    exact ⟨_, _, _, e, (fun _ _ => by kernel_rfl), sec1_any pl p lc kc dc k a c d s F e0 a0 u0 at0 dead w h1 h2 h3 hl h4 h5 (fun b off sp hb => hF b (h9 b off sp hb)) h hx hw hpn⟩
end Go.Proofs.Ytipkeifpkemcdaa
