/- wal: start, Head, Append, Reset. -/
import Derived.Test.YtipkeifpkemcdaaWalI
import Derived.Deep.MidRow
namespace Go.Proofs.Ytipkeifpkemcdaa
open Go.RowKit
set_option linter.unusedVariables false
set_option linter.unusedSimpArgs false
set_option maxRecDepth 100000
set_option maxHeartbeats 6400000
theorem range_ofB {w : World} {b : Nat} {C : Array Value} {T : TypeId} {fr : Nat × Nat} (h : w.heap[b]? = some (.cells C T fr)) (o : Nat) (cs : List Value) (hc : ∀ (j : Nat) v, cs[j]? = some v → C[o + j]? = some v) : w.rangeAt b o cs :=
  fun j u hu => cell_of_block h (hc j u hu)
theorem logHead_in (p e : Nat) (a u at_ : Int) (dead : Bool) : ∀ (j : Nat) v, (headArr e a u).toList[j]? = some v → (logArr p e a u at_ dead)[1 + j]? = some v := by
  intro j v h
  match j with
  | 0 => exact h
  | 1 => exact h
  | 2 => exact h
  | j + 3 => simp [headArr] at h
/-- All units' sectors. -/
def layAll (us : List (List UInt8)) : List UInt8 := us.flatMap layB
def sizeAll (us : List (List UInt8)) : Nat := (us.map fun l => unitSize l.length).sum
theorem layAll_len : ∀ (us : List (List UInt8)), (layAll us).length = 64 * sizeAll us
  | [] => rfl
  | u :: us => by
    have h := layAll_len us
    unfold layAll sizeAll at *
    rw [List.flatMap_cons, List.length_append, h, layB_len, List.map_cons, List.sum_cons]
    omega
theorem layAll_snoc (us : List (List UInt8)) (l : List UInt8) : layAll (us ++ [l]) = layAll us ++ layB l := by unfold layAll; rw [List.flatMap_append]; simp
/-- Units that came: a row of slices of bytes. -/
structure UnA (w : World) (aU : Option Addr) (nU : Nat) (us : List (List UInt8)) : Prop where
  len : us.length = nU
  row : ∀ k, k < nU → ∃ b off a n c l, aU = some ⟨b, off, none⟩ ∧ us[k]? = some l ∧ w.cell? ⟨b, off + k, none⟩ = some (.slice a n c) ∧ RdB w a n l ∧ (a = none → c = 0) ∧ n ≤ 1099511627776
theorem UnA.below {w w' : World} {aU : Option Addr} {nU : Nat} {us : List (List UInt8)} (h : UnA w aU nU us) (hb : Below w.heap.size w w') : UnA w' aU nU us :=
  ⟨h.len, fun k hk => let ⟨b, off, a, n, c, l, h1, h2, h3, h4, h5, h6⟩ := h.row k hk; ⟨b, off, a, n, c, l, h1, h2, (Chg.of_below hb []).cell h3 (by simp), h4.below hb, h5, h6⟩⟩
theorem logStart_any (pl p e0 : Nat) (a0 u0 at0 : Int) (dead : Bool) (x : Nat) (s : DSt) (F : List Nat) (w : World) (hl : w.heap[pl]? = some (.cells (logArr p e0 a0 u0 at0 dead) 118 (0, 0))) (h : Dk w p s F) (h2 : 2 ≤ s.sec.length) (h3 : s.sec.length ≤ 4294967296) (hx : x ≤ 1) :
    Calls Try.prog 85 #[.pointer (some ⟨pl, 0, none⟩), .int .i64 (x : Int)] w fun e w' => e = .returned (.int .i64 ((2 + x * ((s.sec.length - 2) / 2) : Nat) : Int)) ∧ w = w' := by
  obtain ⟨n, hn⟩ : ∃ n, (s.sec.length - 2) / 2 = n := ⟨_, rfl⟩
  have hnb : n ≤ 4294967296 := by omega
  have HL := hid hl; have HD := hid h
  have HN := hid hn
  rw [hn]
  have hm1 : IntKind.i64.wrap ((x : Int) * (n : Int)) = ((x * n : Nat) : Int) := by
    have : x * n ≤ n := by rcases (show x = 0 ∨ x = 1 by omega) with rfl | rfl <;> omega
    rw [IntWalk.i64_in _ (by rw [← Int.natCast_mul]; omega), ← Int.natCast_mul]
  have hm2 : IntKind.i64.wrap (2 + ((x * n : Nat) : Int)) = ((2 + x * n : Nat) : Int) := by
    have : x * n ≤ n := by rcases (show x = 0 ∨ x = 1 by omega) with rfl | rfl <;> omega
    rw [IntWalk.i64_in _ (by omega)]; omega
  obtain ⟨M, hM⟩ : ∃ M, x * n = M := ⟨_, rfl⟩
  rw [hM] at hm1 hm2 ⊢
  obtain ⟨M2, hM2⟩ : ∃ M2, 2 + M = M2 := ⟨_, rfl⟩
  rw [hM2] at hm2 ⊢
  clear hl h hn hM hM2
  go_enter Try.func85, Try.ntmps85
  go_wp2_with fail
  refine (logHalf_any pl p e0 a0 u0 at0 dead 118 s F _ HL.out HD.out h2 (by omega)).mono ?_
  rintro e w1 ⟨rfl, rfl⟩
  rw [HN.out]
  dsimp only
  go_wp2_with fail
  go_ret
  exact ⟨rfl, rfl⟩
theorem hBuild (e : Nat) (a u : Int) (w : World) : (Instr.build 116 #[(0, .int .u64 e), (1, .int .i64 a), (2, .int .i64 u)]).run Try.prog w = .ok (.agg (headArr e a u)) w := by kernel_rfl
/-- What an Append answers. -/
def AppRes (pl p e0 a0 u0 : Nat) (at0 : Int) (us : List (List UInt8)) (s : DSt) (F : List Nat) (w : World) (e : Ending) (w' : World) : Prop :=
  (us = [] ∧ e = .returned (.int .i64 0) ∧ Below w.heap.size w w') ∨ (us ≠ [] ∧ ((s.sec.length - 2) / 2) - u0 < sizeAll us ∧ e = .returned (.int .i64 2) ∧ Below w.heap.size w w') ∨
  (us ≠ [] ∧ sizeAll us ≤ ((s.sec.length - 2) / 2) - u0 ∧ ∃ R : DSt × Bool, runW (comW (2 + a0 * ((s.sec.length - 2) / 2) + u0) (layAll us) (sizeAll us) (if at0 = 0 then 1 else 0) (headB (e0 + 1) ((a0 : Int)) (((u0 + sizeAll us : Nat) : Int)))) s = R ∧ e = .returned (.int .i64 (if R.2 = true then 0 else 9)) ∧ Chg (pl :: F) w w' ∧
      w'.heap[pl]? = some (.cells (if R.2 = true then logArr p (e0 + 1) ((a0 : Int)) (((u0 + sizeAll us : Nat) : Int)) ((if at0 = 0 then 1 else 0 : Nat) : Int) false else logArr p e0 (a0 : Int) (u0 : Int) at0 true) 118 (0, 0)) ∧ ∃ F', Dk w' p R.1 F' ∧ Fresh F F' w)
/-- While the units are laid. -/
structure ApL (us : List (List UInt8)) (nU : Nat) (w : World) (y5 y19 : Value) (wr : World) : Prop where
  ex : ∃ (k : Nat) (aa : Option Addr) (na ca : Nat), y5 = .slice aa na ca ∧ y19 = .int .i64 (k : Int) ∧ k ≤ nU ∧ na = (layAll (us.take k)).length ∧ wr.ownsRow w.heap.size 5 1 (.slice aa na ca) na ((layAll (us.take k)).map B8) ∧ Below w.heap.size w wr
theorem sizeAll_le : ∀ (us : List (List UInt8)) (k : Nat), sizeAll (us.take k) ≤ sizeAll us
  | [], k => by simp
  | u :: us, 0 => by unfold sizeAll; simp
  | u :: us, k + 1 => by
    have := sizeAll_le us k
    unfold sizeAll at *
    simp only [List.take_succ_cons, List.map_cons, List.sum_cons]
    omega
theorem len_sizeAll : ∀ (us : List (List UInt8)), us.length ≤ sizeAll us
  | [] => Nat.zero_le _
  | u :: us => by
    have := len_sizeAll us
    unfold sizeAll at *
    simp only [List.length_cons, List.map_cons, List.sum_cons]
    have h2 : 1 ≤ unitSize u.length := by unfold unitSize; omega
    omega
theorem Append_any (pl p e0 a0 u0 : Nat) (at0 : Int) (aU : Option Addr) (nU cU : Nat) (us : List (List UInt8)) (s : DSt) (F : List Nat) (w : World) (hu : UnA w aU nU us) (hl : w.heap[pl]? = some (.cells (logArr p e0 (a0 : Int) (u0 : Int) at0 false) 118 (0, 0))) (h : Dk w p s F) (hpF : pl ∉ F) (h8 : 8 ≤ s.sec.length) (h3 : s.sec.length ≤ 4096) (ha0 : a0 ≤ 1) (hu0 : u0 ≤ ((s.sec.length - 2) / 2)) (he : e0 + 1 < 18446744073709551616) (hsz : sizeAll us ≤ 1073741824) (hw : s.works < 1152921504606846976) (hpn : s.pend.length < 1073741824) :
    Calls Try.prog 74 #[.pointer (some ⟨pl, 0, none⟩), .slice aU nU cU] w (AppRes pl p e0 a0 u0 at0 us s F w) := by
  obtain ⟨ib, hib, hbz0, hbz1, hbz2⟩ := info_parts dInfoB
  have HU := hid hu; have HL := hid hl; have HD := hid h
  have HHALF := hid hu0
  have hnU : nU ≤ 1073741824 := by have h1 := len_sizeAll us; have h2 := hu.len; omega
  clear hu hl h hu0
  have hc5 : w.cell? ⟨pl, 5, none⟩ = some (.bool false) := cell_of_block (j := 5) HL.out rfl
  go_enter Try.func74, Try.ntmps74
  by_cases h0 : nU = 0
  · subst h0
    go_wp2_with fail
    go_ret
    exact .inl ⟨List.length_eq_zero_iff.1 HU.out.len, rfl, Below.refl _ _⟩
  · have h0z : ((nU : Int) == 0) = false := by rw [beq_eq_false_iff_ne]; omega
    have HNE : Hid (us ≠ []) := fun hz => by have := HU.out.len; rw [hz] at this; exact h0 this.symm
    go_wp2_with fail
    clear hc5 h0z
    go_loopw [5, 19] (fun y5 y19 wr => ApL us nU w y5 y19 wr) (fun _ y19 _ => nU - (intOf y19).toNat)
    case atStart => exact ⟨⟨0, none, 0, 0, rfl, rfl, Nat.zero_le _, rfl, World.ownsRow_nil _ _ _ _, Below.refl _ _⟩⟩
    case round =>
      obtain ⟨k, aa, na, ca, rfl, rfl, hkn, hna, ho, hb⟩ := hrel.ex
      clear hrel
      have HO := hid ho; have HB := hid hb; have HNA := hid hna
      clear ho hb hna
      have HSK := hid (sizeAll_le us k)
      have HNS : Hid (na = 64 * sizeAll (us.take k)) := by show _ = _; rw [HNA.out, layAll_len]
      by_cases hlt : k < nU
      · have hltz : (k : Int) < (nU : Int) := by omega
        obtain ⟨bU, oU, al, nl, cl, ll, rfl, hll, hcell, hrd, hno, hn40⟩ := (HU.out.below HB.out).row k hlt
        have HRD := hid hrd; have HNO := hid hno; have HLL := hid hll
        clear hrd hno hll
        go_wp2_with fail
        refine (lay_any al nl cl ll _ HRD.out HNO.out hn40).mono ?_
        rintro e w2 ⟨a2, c2, rfl, ho2, hb2⟩
        dsimp only
        have HO2 := hid ho2
        have HB2 := hid (HB.out.trans (hb2.mono HB.out.size))
        have HOA := hid ((Chg.of_below hb2 []).owns HO.out (fun _ _ hm => by cases hm))
        have HTK : Hid (us.take (k + 1) = us.take k ++ [ll]) := take_snoc HLL.out
        have HLB : Hid (sizeAll (us.take (k + 1)) = sizeAll (us.take k) + unitSize ll.length) := by show _ = _; rw [HTK.out]; unfold sizeAll; simp
        have HSK1 := hid (sizeAll_le us (k + 1))
        have HLYB := hid (layB_len ll)
        clear ho2 hb2 hcell HRD HNO
        go_wp2_with (at_builtin; go_must (refine wpList_append_bytes rfl _ _ 24 rfl w.heap.size 5 ib _ Try.underlying24 hib hbz0 hbz1 hbz2 rfl _ na (layAll (us.take k)) rfl HOA.out a2 (layB ll).length c2 (layB ll) rfl (RdB.of_own HO2.out) (own_slice HO2.out).2.1 (by have h1 := HNS.out; have h2 := HSK1.out; have h3 := HLB.out; have h4 := HLYB.out; omega) HB2.out.size ?_); intro a' c' w3 hown hgw; have HO3 := hid hown; have HG3 := hid hgw; clear hown hgw)
        have HRR : ApL us nU w (.slice a' (na + (layB ll).length) c') (.int .i64 ((k : Int) + 1)) w3 := by
          refine ⟨k + 1, a', _, c', rfl, by go_num, by omega, by rw [HTK.out, layAll_snoc, List.length_append, HNA.out], by rw [HTK.out, layAll_snoc]; exact HO3.out, ?_⟩
          exact HB2.out.trans (((Chg.refl _ w2).grown HG3.out (fun q hq => .inl (mem_own'.2 hq : q ∈ (Value.slice aa na ca).ownBlock.toList))).below (fun q hq => (HO.out.lt q (mem_own'.1 hq)).1) HB2.out.size)
        go_roundw
        case rel => first | exact HRR | ((repeat apply Exists.intro); exact HRR) | ((repeat apply Exists.intro); exact ⟨HRR, rfl⟩)
        case measure => (simp [intOf] <;> omega)
      · have hltz : ¬ (k : Int) < (nU : Int) := by omega
        obtain rfl : k = nU := by omega
        have htk : us.take k = us := List.take_of_length_le (by rw [HU.out.len]; exact Nat.le_refl _)
        rw [htk] at HO HNA HNS
        obtain ⟨N, hN⟩ : ∃ N, N = sizeAll us := ⟨_, rfl⟩
        have HN := hid hN
        rw [← hN] at HNS hsz
        have hquo : IntKind.i64.wrap ((na : Int) / 64) = (N : Int) := by have := HNS.out; rw [IntWalk.i64_in _ (by omega)]; omega
        clear htk HSK hltz hN HU
        go_upto_region 12 with (fail)
        go_wp2_with fail
        have HLk := hid ((HB.out.block _ (block_lt HL.out)).trans HL.out)
        have HDk := hid (HD.out.below HB.out)
        refine (logRoom_any pl p e0 (a0 : Int) at0 u0 false 118 s F _ HLk.out HDk.out (by omega) (by omega) HHALF.out).mono ?_
        rintro e w2 ⟨rfl, hb2⟩
        dsimp only
        have HB2 := hid (HB.out.trans (hb2.mono HB.out.size))
        have HL2 := hid ((hb2.block _ (block_lt HLk.out)).trans HLk.out)
        have HD2 := hid (HDk.out.below hb2)
        have HO2 := hid ((Chg.of_below hb2 []).owns HO.out (fun _ _ hm => by cases hm))
        obtain ⟨rm, hrm⟩ : ∃ r, ((s.sec.length - 2) / 2) - u0 = r := ⟨_, rfl⟩
        have HRM := hid hrm
        rw [hrm]
        clear hb2 HLk HDk HO hrm hquo
        by_cases hfull : rm < N
        · have hfz : (rm : Int) < (N : Int) := by omega
          go_wp2_with fail
          go_ret
          exact .inr (.inl ⟨HNE.out, by rw [HRM.out, ← HN.out]; exact hfull, rfl, HB2.out⟩)
        · have hfz : ¬ (rm : Int) < (N : Int) := by omega
          have HFIT : Hid (N ≤ rm) := by show _ ≤ _; omega
          clear hfull
          go_upto_region 15 with (first | (refine wpList_load_mid rfl 116 _ rfl pl 1 rfl (headArr e0 (a0 : Int) (u0 : Int)).toList _ (range_ofB HL2.out 1 _ (logHead_in _ _ _ _ _ _)) Try.underlying116 rfl hSize ?_; simp only [Array.toArray_toList]) | (refine wpList_alloc_obj rfl 116 rfl _ hZero ?_) | (refine wpList_store_obj rfl 116 _ _ rfl w2.heap.size rfl (headArr e0 (a0 : Int) (u0 : Int)) rfl _ _ (block_new w2 _) rfl hSize (headArr_one _ _ _) ?_; intro w3 hb5 hc5 hs5; have HBX := hid hb5; have HC5 := hid hc5; clear hb5 hc5 hs5))
          have hbel : Below w2.heap.size w2 w3 := ((Below.refl _ w2).alloc (Nat.le_refl _) _).trans (HC5.out.below (fun k hk => by rw [List.mem_singleton.1 hk]; exact Nat.le_refl _) (by simp))
          have HB3 := hid (HB2.out.trans (hbel.mono HB2.out.size))
          have HL3 := hid ((hbel.block _ (block_lt HL2.out)).trans HL2.out)
          have HD3 := hid (HD2.out.below hbel)
          have HO3 := hid ((Chg.of_below hbel []).owns HO2.out (fun _ _ hm => by cases hm))
          clear hbel HC5 HB2 HL2 HD2 HO2
          generalize w2.heap.size = bx at *
          obtain ⟨ST, hST⟩ : ∃ x, 2 + a0 * ((s.sec.length - 2) / 2) = x := ⟨_, rfl⟩
          have hSTs : ST ≤ 8192 := by
            rw [← hST]
            rcases (show a0 = 0 ∨ a0 = 1 by omega) with rfl | rfl <;> omega
          have HST := hid hST
          have hU : u0 ≤ 4096 := by have := HHALF.out; omega
          have HS1 : Hid (IntKind.i64.wrap ((ST : Int) + (u0 : Int)) = ((ST + u0 : Nat) : Int)) := by show _ = _; rw [IntWalk.i64_in _ (by omega)]; omega
          have HS2 : Hid (IntKind.i64.wrap ((u0 : Int) + (N : Int)) = ((u0 + N : Nat) : Int)) := by show _ = _; rw [IntWalk.i64_in _ (by omega)]; omega
          have HS3 : Hid (IntKind.u64.wrap ((e0 : Int) + 1) = ((e0 + 1 : Nat) : Int)) := by show _ = _; rw [IntWalk.u64_in _ (by omega)]; omega
          clear hST
          refine wp_region_each 19 [.eq (.pointer (some ⟨pl, 0, none⟩)), .eq (.pointer (some ⟨pl, 0, none⟩)), .eq (.pointer (some ⟨bx, 1, none⟩)), .eq (.int .i64 (a0 : Int)), .eq (.int .i64 (ST : Int)), .eq (.pointer (some ⟨bx, 2, none⟩)), .eq (.int .i64 (u0 : Int)), .eq (.int .i64 ((ST + u0 : Nat) : Int)), .eq (.slice aa na ca), .eq (.pointer (some ⟨bx, 0, none⟩)), .eq (.int .u64 (e0 : Int)), .eq (.int .u64 ((e0 + 1 : Nat) : Int)), .eq (.pointer (some ⟨bx, 1, none⟩)), .eq (.int .i64 (a0 : Int)), .eq (.pointer (some ⟨bx, 2, none⟩)), .eq (.int .i64 (u0 : Int)), .eq (.int .i64 (N : Int)), .eq (.int .i64 ((u0 + N : Nat) : Int)), .eq (.agg (headArr (e0 + 1) (a0 : Int) ((u0 + N : Nat) : Int)))] (by kernel_rfl) (by kernel_rfl) (by kernel_rfl) (by kernel_rfl) ?_ ?_
          · all_goals
              refine each_5 ?_ ?_ ?_ ?_ ?_ (each_5 ?_ ?_ ?_ ?_ ?_ (each_5 ?_ ?_ ?_ ?_ ?_ (each_c ?_ (each_c ?_ (each_c ?_ (each_c ?_ (each_n)))))))
              · intro w1 hg Ar seen
                have s0 := seen.sl 0 (.pointer (some ⟨pl, 0, none⟩))
                refine does_plain rfl fun K Q' hK => ?_
                go_simp; exact hK _ _ (Grow.refl _) rfl
              · intro w1 hg Ar seen
                have s0 := seen.sl 0 (.pointer (some ⟨pl, 0, none⟩))
                refine does_plain rfl fun K Q' hK => ?_
                go_simp; exact hK _ _ (Grow.refl _) rfl
              · intro w1 hg Ar seen
                have s9 := seen.sl 9 (.pointer (some ⟨bx, 0, none⟩))
                refine does_plain rfl fun K Q' hK => ?_
                go_simp; exact hK _ _ (Grow.refl _) rfl
              · intro w1 hg Ar seen
                have e2 := seen.de 2 41
                refine does_plain rfl fun K Q' hK => ?_
                have hc : w1.cell? ⟨bx, 1, none⟩ = some (.int .i64 (a0 : Int)) := cell_of_block (j := 1) ((hg.block _ (block_lt HBX.out)).trans HBX.out) rfl
                go_simp; exact hK _ _ (Grow.refl _) rfl
              · intro w1 hg Ar seen
                have e1 := seen.de 1 40
                have e3 := seen.de 3 42
                refine does_plain rfl fun K Q' hK => ?_
                go_simp
                refine (logStart_any pl p e0 (a0 : Int) (u0 : Int) at0 false a0 s F _ ((hg.block _ (block_lt HL3.out)).trans HL3.out) (HD3.out.below hg) (by omega) (by omega) ha0).mono ?_
                rintro e u ⟨rfl, rfl⟩
                exact hK _ _ (Grow.refl _) (congrArg (fun x : Nat => Value.int .i64 (x : Int)) HST.out)
              · intro w1 hg Ar seen
                have s9 := seen.sl 9 (.pointer (some ⟨bx, 0, none⟩))
                refine does_plain rfl fun K Q' hK => ?_
                go_simp; exact hK _ _ (Grow.refl _) rfl
              · intro w1 hg Ar seen
                have e5 := seen.de 5 44
                refine does_plain rfl fun K Q' hK => ?_
                have hc : w1.cell? ⟨bx, 2, none⟩ = some (.int .i64 (u0 : Int)) := cell_of_block (j := 2) ((hg.block _ (block_lt HBX.out)).trans HBX.out) rfl
                go_simp; exact hK _ _ (Grow.refl _) rfl
              · intro w1 hg Ar seen
                have e4 := seen.de 4 43
                have e6 := seen.de 6 45
                refine does_plain rfl fun K Q' hK => ?_
                have hs := HS1.out
                go_simp; exact hK _ _ (Grow.refl _) rfl
              · intro w1 hg Ar seen
                have s5 := seen.sl 5 (.slice aa na ca)
                refine does_plain rfl fun K Q' hK => ?_
                go_simp; exact hK _ _ (Grow.refl _) rfl
              · intro w1 hg Ar seen
                have s9 := seen.sl 9 (.pointer (some ⟨bx, 0, none⟩))
                refine does_plain rfl fun K Q' hK => ?_
                go_simp; exact hK _ _ (Grow.refl _) rfl
              · intro w1 hg Ar seen
                have e9 := seen.de 9 48
                refine does_plain rfl fun K Q' hK => ?_
                have hc : w1.cell? ⟨bx, 0, none⟩ = some (.int .u64 (e0 : Int)) := cell_of_block (j := 0) ((hg.block _ (block_lt HBX.out)).trans HBX.out) rfl
                go_simp; exact hK _ _ (Grow.refl _) rfl
              · intro w1 hg Ar seen
                have e10 := seen.de 10 49
                refine does_plain rfl fun K Q' hK => ?_
                have hs := HS3.out
                go_simp; exact hK _ _ (Grow.refl _) rfl
              · intro w1 hg Ar seen
                have s9 := seen.sl 9 (.pointer (some ⟨bx, 0, none⟩))
                refine does_plain rfl fun K Q' hK => ?_
                go_simp; exact hK _ _ (Grow.refl _) rfl
              · intro w1 hg Ar seen
                have e12 := seen.de 12 51
                refine does_plain rfl fun K Q' hK => ?_
                have hc : w1.cell? ⟨bx, 1, none⟩ = some (.int .i64 (a0 : Int)) := cell_of_block (j := 1) ((hg.block _ (block_lt HBX.out)).trans HBX.out) rfl
                go_simp; exact hK _ _ (Grow.refl _) rfl
              · intro w1 hg Ar seen
                have s9 := seen.sl 9 (.pointer (some ⟨bx, 0, none⟩))
                refine does_plain rfl fun K Q' hK => ?_
                go_simp; exact hK _ _ (Grow.refl _) rfl
              · intro w1 hg Ar seen
                have e14 := seen.de 14 53
                refine does_plain rfl fun K Q' hK => ?_
                have hc : w1.cell? ⟨bx, 2, none⟩ = some (.int .i64 (u0 : Int)) := cell_of_block (j := 2) ((hg.block _ (block_lt HBX.out)).trans HBX.out) rfl
                go_simp; exact hK _ _ (Grow.refl _) rfl
              · intro w1 hg Ar seen
                have s8 := seen.sl 8 (.int .i64 (N : Int))
                refine does_plain rfl fun K Q' hK => ?_
                go_simp; exact hK _ _ (Grow.refl _) rfl
              · intro w1 hg Ar seen
                have e15 := seen.de 15 54
                have e16 := seen.de 16 55
                refine does_plain rfl fun K Q' hK => ?_
                have hs := HS2.out
                go_simp; exact hK _ _ (Grow.refl _) rfl
              · intro w1 hg Ar seen
                have e11 := seen.de 11 50
                have e13 := seen.de 13 52
                have e17 := seen.de 17 56
                refine does_plain rfl fun K Q' hK => ?_
                refine wp_build_obj 116 _ rfl #[(0, .int .u64 ((e0 + 1 : Nat) : Int)), (1, .int .i64 (a0 : Int)), (2, .int .i64 ((u0 + N : Nat) : Int))] (by simp [Act.eval, e11, e13, e17]) _ (hBuild _ _ _ _) ?_
                exact hK _ _ (Grow.refl _) rfl
          intro w1 hg
          refine upon_w' (js := [0, 1, 2, 3, 4, 5, 6, 7, 8, 9, 10, 11, 12, 13, 14, 15, 16, 17, 18]) (by rfl) ?_
          refine upon_e (some 39) (upon_e (some 40) (upon_e (some 41) (upon_e (some 42) (upon_e (some 43) (upon_e (some 44) (upon_e (some 45) (upon_e (some 46) (upon_e (some 47) (upon_e (some 48) (upon_e (some 49) (upon_e (some 50) (upon_e (some 51) (upon_e (some 52) (upon_e (some 53) (upon_e (some 54) (upon_e (some 55) (upon_e (some 56) (upon_e (some 57) (upon_n ?_)))))))))))))))))))
          have HG := hid hg
          clear hg
          have HW1 : Hid (Below w.heap.size w w1) := HB3.out.trans (HG.out.mono HB3.out.size)
          have HO4 := hid ((Chg.of_below HG.out []).owns HO3.out (fun _ _ hm => by cases hm))
          have HL4 := hid ((HG.out.block _ (block_lt HL3.out)).trans HL3.out)
          have HD4 := hid (HD3.out.below HG.out)
          have HPB : Hid (pl < w.heap.size) := block_lt HL.out
          have HFL : Hid (∀ q ∈ F, q < w.heap.size) := Dk.lt HD.out
          clear HG HB3 HO3 HL3 HD3 HBX HL HD HB
          go_simp
          obtain ⟨R, hR⟩ : ∃ R, runW (comW (ST + u0) (layAll us) N (if at0 = 0 then 1 else 0) (headB (e0 + 1) (a0 : Int) ((u0 + N : Nat) : Int))) s = R := ⟨_, rfl⟩
          have HR := hid hR
          clear hR
          go_wp2_with fail
          refine (commit_any pl p w.heap.size (ST + u0) N aa na ca (layAll us) (e0 + 1) (a0 : Int) ((u0 + N : Nat) : Int) e0 (a0 : Int) (u0 : Int) at0 s F _ (RdB.of_own HO4.out) (own_slice HO4.out).2.1 (own_slice HO4.out).1 HNS.out HW1.out.size (fun b off sp e => own_at HO4.out b off sp e) he HL4.out HD4.out HFL.out hpF HPB.out (by have h1 := HST.out; have h4 := HRM.out; have h5 := HFIT.out; have h7 := HHALF.out; have h6 : a0 * ((s.sec.length - 2) / 2) ≤ ((s.sec.length - 2) / 2) := (by rcases (show a0 = 0 ∨ a0 = 1 by omega) with rfl | rfl <;> omega); omega) (by omega) (by omega) (by have h4 := HRM.out; have h5 := HFIT.out; omega) (by have h4 := HRM.out; have h5 := HFIT.out; omega) _ rfl R HR.out).mono ?_
          obtain ⟨rc, hrc⟩ : ∃ z : Int, (if R.2 = true then (0 : Int) else 9) = z := ⟨_, rfl⟩
          rw [hrc]
          have HRC := hid hrc
          rintro e w5 ⟨rfl, hch, hlg, F', hd', hfr⟩
          dsimp only
          have HCH : Hid (Chg (pl :: F) w w5) := (Chg.of_below HW1.out _).trans hch (fun q hq => .inl hq)
          have HLG := hid hlg; have HDF := hid hd'
          have HFR : Hid (Fresh F F' w) := fun q hq => by
            rcases hfr q hq with h' | h'
            · exact .inl h'
            · exact .inr (Nat.le_trans HW1.out.size h')
          clear hch hlg hd' hfr hrc
          go_wp2_with fail
          go_ret
          refine .inr (.inr ⟨HNE.out, by rw [HRM.out, ← HN.out]; exact HFIT.out, R, ?_, by rw [HRC.out]; rfl, HCH.out, ?_, F', HDF.out, HFR.out⟩)
          · rw [← HN.out, HST.out]; exact HR.out
          · rw [← HN.out]; exact HLG.out
/-- What a Reset answers. -/
def ResRes (pl p e0 a0 u0 : Nat) (at0 : Int) (l : List UInt8) (s : DSt) (F : List Nat) (w : World) (e : Ending) (w' : World) : Prop :=
  (((s.sec.length - 2) / 2) < unitSize l.length ∧ e = .returned (.int .i64 2) ∧ Below w.heap.size w w') ∨ (unitSize l.length ≤ ((s.sec.length - 2) / 2) ∧ ∃ R : DSt × Bool, runW (comW (2 + (1 - a0) * ((s.sec.length - 2) / 2)) (layB l) (unitSize l.length) (if at0 = 0 then 1 else 0) (headB (e0 + 1) (((1 - a0 : Nat) : Int)) ((unitSize l.length : Int)))) s = R ∧ e = .returned (.int .i64 (if R.2 = true then 0 else 9)) ∧ Chg (pl :: F) w w' ∧
      w'.heap[pl]? = some (.cells (if R.2 = true then logArr p (e0 + 1) (((1 - a0 : Nat) : Int)) ((unitSize l.length : Int)) ((if at0 = 0 then 1 else 0 : Nat) : Int) false else logArr p e0 (a0 : Int) (u0 : Int) at0 true) 118 (0, 0)) ∧ ∃ F', Dk w' p R.1 F' ∧ Fresh F F' w)
def stLay (T : TypeId) (B : Nat) (l : List UInt8) : St Grow := ⟨fun v w => ∃ a c, v = .slice a l.length c ∧ w.ownsRow B T 1 (.slice a l.length c) l.length (l.map B8), fun v w w' h hg => let ⟨a, c, e, h1⟩ := h; ⟨a, c, e, (Chg.of_below hg []).owns h1 (fun k _ hm => by cases hm)⟩⟩
theorem Reset_any (pl p e0 a0 u0 : Nat) (at0 : Int) (aB : Option Addr) (nB cB : Nat) (l : List UInt8) (s : DSt) (F : List Nat) (w : World) (hr : RdB w aB nB l) (hno : aB = none → cB = 0) (hn40 : nB ≤ 1073741824) (hl : w.heap[pl]? = some (.cells (logArr p e0 (a0 : Int) (u0 : Int) at0 false) 118 (0, 0))) (h : Dk w p s F) (hpF : pl ∉ F) (h8 : 8 ≤ s.sec.length) (h3 : s.sec.length ≤ 4096) (ha0 : a0 ≤ 1) (he : e0 + 1 < 18446744073709551616) (hw : s.works < 1152921504606846976) (hpn : s.pend.length < 1073741824) :
    Calls Try.prog 75 #[.pointer (some ⟨pl, 0, none⟩), .slice aB nB cB] w (ResRes pl p e0 a0 u0 at0 l s F w) := by
  have HR := hid hr; have HNO := hid hno; have HL := hid hl; have HD := hid h
  have HLN := hid hr.len
  obtain ⟨N, hN⟩ : ∃ N, unitSize nB = N := ⟨_, rfl⟩
  have HN := hid hN
  have HN2 : Hid (unitSize l.length = N) := by show _ = _; rw [HLN.out]; exact hN
  obtain ⟨H, hH⟩ : ∃ H, ((s.sec.length - 2) / 2) = H := ⟨_, rfl⟩
  have HH := hid hH
  obtain ⟨ST, hST⟩ : ∃ x, 2 + (1 - a0) * ((s.sec.length - 2) / 2) = x := ⟨_, rfl⟩
  have HST := hid hST
  have hSTs : ST ≤ 8192 := by
    rw [← hST]
    rcases (show a0 = 0 ∨ a0 = 1 by omega) with rfl | rfl <;> omega
  have HS3 : Hid (IntKind.u64.wrap ((e0 : Int) + 1) = ((e0 + 1 : Nat) : Int)) := by show _ = _; rw [IntWalk.u64_in _ (by omega)]; omega
  have hs1 : IntKind.i64.wrap (1 - (a0 : Int)) = ((1 - a0 : Nat) : Int) := by rw [IntWalk.i64_in _ (by omega)]; omega
  have hc5 : w.cell? ⟨pl, 5, none⟩ = some (.bool false) := cell_of_block (j := 5) HL.out rfl
  have hc2 : w.cell? ⟨pl, 2, none⟩ = some (.int .i64 (a0 : Int)) := cell_of_block (j := 2) HL.out rfl
  obtain ⟨A1, hA1⟩ : ∃ x, x = 1 - a0 := ⟨_, rfl⟩
  have HA1 := hid hA1
  have hA1le : A1 ≤ 1 := by omega
  rw [← hA1] at hs1
  clear hr hno hl h hN hH hST hA1
  go_enter Try.func75, Try.ntmps75
  go_wp2_with fail
  refine (size_any aB nB cB _ (by omega)).mono ?_
  rintro e w1 ⟨rfl, rfl⟩
  rw [HN.out]
  dsimp only
  go_wp2_with fail
  refine (logHalf_any pl p e0 (a0 : Int) (u0 : Int) at0 false 118 s F _ HL.out HD.out (by omega) (by omega)).mono ?_
  rintro e w1 ⟨rfl, rfl⟩
  rw [HH.out]
  dsimp only
  by_cases hfull : H < N
  · have hfz : (H : Int) < (N : Int) := by omega
    go_wp2_with fail
    go_ret
    exact .inl ⟨by rw [HH.out, HN2.out]; exact hfull, rfl, Below.refl _ _⟩
  · have hfz : ¬ (H : Int) < (N : Int) := by omega
    have HFIT : Hid (N ≤ H) := by show _ ≤ _; omega
    clear hfull
    go_upto_region 6 with (fail)
    clear hfz hc5 hc2 hs1
    refine wp_region_each 16 [.eq (.pointer (some ⟨pl, 0, none⟩)), .eq (.pointer (some ⟨pl, 0, none⟩)), .eq (.int .i64 (A1 : Int)), .eq (.int .i64 (ST : Int)), .eq (.slice aB nB cB), stLay 5 w.heap.size (layB l), .eq (.pointer (some ⟨pl, 0, none⟩)), .eq (.pointer (some ⟨pl, 0, none⟩)), .eq (.pointer (some ⟨pl, 1, none⟩)), .eq (.pointer (some ⟨pl, 1, none⟩)), .eq (.int .u64 (e0 : Int)), .eq (.int .u64 ((e0 + 1 : Nat) : Int)), .eq (.int .i64 (A1 : Int)), .eq (.slice aB nB cB), .eq (.int .i64 (N : Int)), .eq (.agg (headArr (e0 + 1) (A1 : Int) (N : Int)))] (by kernel_rfl) (by kernel_rfl) (by kernel_rfl) (by kernel_rfl) ?_ ?_
    · all_goals
        refine each_5 ?_ ?_ ?_ ?_ ?_ (each_5 ?_ ?_ ?_ ?_ ?_ (each_5 ?_ ?_ ?_ ?_ ?_ (each_c ?_ (each_n))))
        · intro w1 hg Ar seen
          have s0 := seen.sl 0 (.pointer (some ⟨pl, 0, none⟩))
          refine does_plain rfl fun K Q' hK => ?_
          go_simp; exact hK _ _ (Grow.refl _) rfl
        · intro w1 hg Ar seen
          have s0 := seen.sl 0 (.pointer (some ⟨pl, 0, none⟩))
          refine does_plain rfl fun K Q' hK => ?_
          go_simp; exact hK _ _ (Grow.refl _) rfl
        · intro w1 hg Ar seen
          have s5 := seen.sl 5 (.int .i64 (A1 : Int))
          refine does_plain rfl fun K Q' hK => ?_
          go_simp; exact hK _ _ (Grow.refl _) rfl
        · intro w1 hg Ar seen
          have e1 := seen.de 1 24
          have e2 := seen.de 2 25
          refine does_plain rfl fun K Q' hK => ?_
          go_simp
          refine (logStart_any pl p e0 (a0 : Int) (u0 : Int) at0 false A1 s F _ ((hg.block _ (block_lt HL.out)).trans HL.out) (HD.out.below hg) (by omega) (by omega) (by omega)).mono ?_
          rintro e u ⟨rfl, rfl⟩
          exact hK _ _ (Grow.refl _) (congrArg (fun x : Nat => Value.int .i64 (x : Int)) (by rw [HA1.out]; exact HST.out))
        · intro w1 hg Ar seen
          have s1 := seen.sl 1 (.slice aB nB cB)
          refine does_plain rfl fun K Q' hK => ?_
          go_simp; exact hK _ _ (Grow.refl _) rfl
        · intro w1 hg Ar seen
          have e4 := seen.de 4 27
          refine does_plain rfl fun K Q' hK => ?_
          go_simp
          refine (lay_any aB nB cB l _ (HR.out.below hg) HNO.out (by omega)).mono ?_
          rintro e u ⟨a2, c2, rfl, ho, hb⟩
          exact hK _ _ hb ⟨a2, c2, rfl, own_lower ho hg.size⟩
        · intro w1 hg Ar seen
          have s0 := seen.sl 0 (.pointer (some ⟨pl, 0, none⟩))
          refine does_plain rfl fun K Q' hK => ?_
          go_simp; exact hK _ _ (Grow.refl _) rfl
        · intro w1 hg Ar seen
          have e6 := seen.de 6 29
          refine does_plain rfl fun K Q' hK => ?_
          go_simp; exact hK _ _ (Grow.refl _) rfl
        · intro w1 hg Ar seen
          have e7 := seen.de 7 30
          refine does_plain rfl fun K Q' hK => ?_
          go_simp; exact hK _ _ (Grow.refl _) rfl
        · intro w1 hg Ar seen
          have e8 := seen.de 8 31
          refine does_plain rfl fun K Q' hK => ?_
          go_simp; exact hK _ _ (Grow.refl _) rfl
        · intro w1 hg Ar seen
          have e9 := seen.de 9 32
          refine does_plain rfl fun K Q' hK => ?_
          have hc : w1.cell? ⟨pl, 1, none⟩ = some (.int .u64 (e0 : Int)) := cell_of_block (j := 1) ((hg.block _ (block_lt HL.out)).trans HL.out) rfl
          go_simp; exact hK _ _ (Grow.refl _) rfl
        · intro w1 hg Ar seen
          have e10 := seen.de 10 33
          refine does_plain rfl fun K Q' hK => ?_
          have hs := HS3.out
          go_simp; exact hK _ _ (Grow.refl _) rfl
        · intro w1 hg Ar seen
          have s5 := seen.sl 5 (.int .i64 (A1 : Int))
          refine does_plain rfl fun K Q' hK => ?_
          go_simp; exact hK _ _ (Grow.refl _) rfl
        · intro w1 hg Ar seen
          have s1 := seen.sl 1 (.slice aB nB cB)
          refine does_plain rfl fun K Q' hK => ?_
          go_simp; exact hK _ _ (Grow.refl _) rfl
        · intro w1 hg Ar seen
          have e13 := seen.de 13 36
          refine does_plain rfl fun K Q' hK => ?_
          go_simp
          refine (size_any aB nB cB _ (by omega)).mono ?_
          rintro e u ⟨rfl, rfl⟩
          exact hK _ _ (Grow.refl _) (congrArg (fun x : Nat => Value.int .i64 (x : Int)) HN.out)
        · intro w1 hg Ar seen
          have e11 := seen.de 11 34
          have e12 := seen.de 12 35
          have e14 := seen.de 14 37
          refine does_plain rfl fun K Q' hK => ?_
          refine wp_build_obj 116 _ rfl #[(0, .int .u64 ((e0 + 1 : Nat) : Int)), (1, .int .i64 (A1 : Int)), (2, .int .i64 (N : Int))] (by simp [Act.eval, e11, e12, e14]) _ (hBuild _ _ _ _) ?_
          exact hK _ _ (Grow.refl _) rfl
    intro w1 hg
    refine upon_w' (js := [0, 1, 2, 3, 4, 5, 6, 7, 8, 9, 10, 11, 12, 13, 14, 15]) (by rfl) ?_
    refine upon_e (some 23) (upon_e (some 24) (upon_e (some 25) (upon_e (some 26) (upon_e (some 27) (upon_v (some 28) fun v5 h5 => upon_e (some 29) (upon_e (some 30) (upon_e (some 31) (upon_e (some 32) (upon_e (some 33) (upon_e (some 34) (upon_e (some 35) (upon_e (some 36) (upon_e (some 37) (upon_e (some 38) (upon_n ?_)))))))))))))))
    have HG := hid hg
    clear hg
    obtain ⟨aa, ca, rfl, ho⟩ := h5
    have HO4 := hid ho
    have HW1 : Hid (Below w.heap.size w w1) := HG.out
    have HL4 := hid ((HG.out.block _ (block_lt HL.out)).trans HL.out)
    have HD4 := hid (HD.out.below HG.out)
    have HPB : Hid (pl < w.heap.size) := block_lt HL.out
    have HFL : Hid (∀ q ∈ F, q < w.heap.size) := Dk.lt HD.out
    clear HG HL HD ho
    try dsimp only
    go_simp
    obtain ⟨R, hR⟩ : ∃ R, runW (comW ST (layB l) N (if at0 = 0 then 1 else 0) (headB (e0 + 1) (A1 : Int) (N : Int))) s = R := ⟨_, rfl⟩
    have HRR := hid hR
    clear hR
    go_wp2_with fail
    refine (commit_any pl p w.heap.size ST N aa (layB l).length ca (layB l) (e0 + 1) (A1 : Int) (N : Int) e0 (a0 : Int) (u0 : Int) at0 s F _ (RdB.of_own HO4.out) (own_slice HO4.out).2.1 (own_slice HO4.out).1 (by rw [layB_len, HN2.out]) HW1.out.size (fun b off sp e => own_at HO4.out b off sp e) he HL4.out HD4.out HFL.out hpF HPB.out (by have h1 := HST.out; have h4 := HH.out; have h5 := HFIT.out; have h6 : (1 - a0) * ((s.sec.length - 2) / 2) ≤ ((s.sec.length - 2) / 2) := (by rcases (show a0 = 0 ∨ a0 = 1 by omega) with rfl | rfl <;> omega); omega) (by omega) (by omega) (by have h4 := HH.out; have h5 := HFIT.out; omega) (by have h4 := HH.out; have h5 := HFIT.out; omega) _ rfl R HRR.out).mono ?_
    obtain ⟨rc, hrc⟩ : ∃ z : Int, (if R.2 = true then (0 : Int) else 9) = z := ⟨_, rfl⟩
    rw [hrc]
    have HRC := hid hrc
    rintro e w5 ⟨rfl, hch, hlg, F', hd', hfr⟩
    dsimp only
    have HCH : Hid (Chg (pl :: F) w w5) := (Chg.of_below HW1.out _).trans hch (fun q hq => .inl hq)
    have HLG := hid hlg; have HDF := hid hd'
    have HFR : Hid (Fresh F F' w) := fun q hq => by
      rcases hfr q hq with h' | h'
      · exact .inl h'
      · exact .inr (Nat.le_trans HW1.out.size h')
    clear hch hlg hd' hfr hrc
    go_wp2_with fail
    go_ret
    refine .inr ⟨by rw [HH.out, HN2.out]; exact HFIT.out, R, ?_, by rw [HRC.out]; rfl, HCH.out, ?_, F', HDF.out, HFR.out⟩
    · rw [HN2.out, HST.out, ← HA1.out]; exact HRR.out
    · rw [HN2.out, ← HA1.out]; exact HLG.out
end Go.Proofs.Ytipkeifpkemcdaa
