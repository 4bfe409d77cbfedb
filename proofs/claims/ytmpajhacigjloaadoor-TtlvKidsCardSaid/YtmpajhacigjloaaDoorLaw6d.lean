/- TtlvKids' walk. -/
import Derived.Test.YtmpajhacigjloaaDoorTtlM
import Derived.Test.YtmpajhacigjloaaDoorLaw6z
namespace Go.Proofs.YtmpajhacigjloaaDoor
open Go.RowKit
set_option linter.unusedVariables false
set_option linter.unusedSimpArgs false
set_option maxRecDepth 1000000
set_option maxHeartbeats 3200000
def two6 (I J : Itm) : Itm := ⟨4325378, 1, 0, [], [I, J]⟩
theorem two_enc (I J : Itm) : (two6 I J).enc = headI (two6 I J) ++ (I.enc ++ J.enc) := by
  have hb : bodyI (two6 I J) = I.enc ++ J.enc := by unfold bodyI; rw [if_pos (show (two6 I J).typ = 1 from rfl)]; simp [two6, encAll]
  rw [Itm.enc_eq, hb]
  unfold pad8
  have h1 := enc_mod I; have h2 := enc_mod J; have h3 := headI_len (two6 I J)
  have h4 : up8 (headI (two6 I J) ++ (I.enc ++ J.enc)).length - (headI (two6 I J) ++ (I.enc ++ J.enc)).length = 0 := by
    simp only [List.length_append]
    unfold up8
    omega
  rw [h4]
  simp
theorem two_facts {I J : Itm} (h : rightI (two6 I J) = true) : (two6 I J).enc.drop 8 = I.enc ++ J.enc ∧ I.enc.length + J.enc.length ≤ 8184 ∧ (two6 I J).enc.length = 8 + (I.enc.length + J.enc.length) ∧ headI (two6 I J) = be 1 66 ++ (be 2 2 ++ (be 1 1 ++ be 4 (I.enc.length + J.enc.length))) := by
  have he := two_enc I J
  have hl := headI_len (two6 I J)
  have hs := right_size h
  have hlen : (two6 I J).enc.length = 8 + (I.enc.length + J.enc.length) := by rw [he]; simp only [List.length_append]; omega
  refine ⟨by rw [he, List.drop_left' hl], by omega, hlen, ?_⟩
  have hn : lenI (two6 I J) = ((I.enc.length + J.enc.length : Nat) : Int) := by
    unfold lenI
    rw [if_pos (show (two6 I J).typ = 1 from rfl), ← hs.1, hlen]
    omega
  unfold headI
  rw [hn, u64nat_nat _ (by omega)]
  have e1 : u64nat ((two6 I J).tag / 65536) = 66 := by show u64nat ((4325378 : Int) / 65536) = 66; decide +kernel
  have e2 : be 2 (u64nat (two6 I J).tag) = be 2 2 := by show be 2 (u64nat (4325378 : Int)) = be 2 2; decide +kernel
  have e3 : u64nat (two6 I J).typ = 1 := by show u64nat (1 : Int) = 1; decide +kernel
  rw [e1, e2, e3]
theorem head_bytes (N : Nat) (l : List UInt8) (h : N < 65536) : ((be 1 66 ++ (be 2 2 ++ (be 1 1 ++ be 4 N)) ++ l).getD 3 0).toNat = 1 ∧ ((be 1 66 ++ (be 2 2 ++ (be 1 1 ++ be 4 N)) ++ l).getD 4 0).toNat = 0 ∧ ((be 1 66 ++ (be 2 2 ++ (be 1 1 ++ be 4 N)) ++ l).getD 5 0).toNat = 0 ∧ ((be 1 66 ++ (be 2 2 ++ (be 1 1 ++ be 4 N)) ++ l).getD 6 0).toNat = N / 256 ∧ ((be 1 66 ++ (be 2 2 ++ (be 1 1 ++ be 4 N)) ++ l).getD 7 0).toNat = N % 256 := by
  have hb : ∀ r, (byteAt N r).toNat = N / 256 ^ r % 256 := fun r => by unfold byteAt; exact UInt8.toNat_ofNat_of_lt' (Nat.mod_lt _ (by decide))
  have e : be 1 66 ++ (be 2 2 ++ (be 1 1 ++ be 4 N)) ++ l = byteAt 66 0 :: byteAt 2 1 :: byteAt 2 0 :: byteAt 1 0 :: byteAt N 3 :: byteAt N 2 :: byteAt N 1 :: byteAt N 0 :: l := by
    simp [be, List.range_succ]
  rw [e]
  refine ⟨by show (byteAt 1 0).toNat = 1; decide +kernel, ?_, ?_, ?_, ?_⟩
  · show (byteAt N 3).toNat = 0; rw [hb]; have : 256 ^ 3 = 16777216 := by decide
    rw [this]; omega
  · show (byteAt N 2).toNat = 0; rw [hb]; have : 256 ^ 2 = 65536 := by decide
    rw [this]; omega
  · show (byteAt N 1).toNat = N / 256; rw [hb]; have : 256 ^ 1 = 256 := by decide
    rw [this]; omega
  · show (byteAt N 0).toNat = N % 256; rw [hb]; have : 256 ^ 0 = 1 := by decide
    rw [this]; omega
theorem str_app (x y : List UInt8) : (⟨(x ++ y).toArray⟩ : ByteArray) = (⟨x.toArray⟩ : ByteArray) ++ ⟨y.toArray⟩ := by
  apply ByteArray.ext
  simp
/-- What Encode told, both ways. -/
def EncT (I : Itm) (e : Ending) (W : World) : Prop := ∃ (a : Option Addr) (n c : Nat) (z : Int), e = .returned (.tuple #[.slice a n c, .int .i64 z]) ∧ (z ≠ 0 ∨ (z = 0 ∧ rightI I = true ∧ GB W a n c I.enc ∧ n = I.enc.length ∧ n ≤ 8192))
theorem encT {I : Itm} {w w' : World} {e : Ending} (h : EncRes I w e w') : EncT I e w' := by
  rcases h.2 with ⟨hr, rfl⟩ | ⟨hr, a, n, c, rfl, hown⟩
  · exact ⟨none, 0, 0, 1, rfl, .inl (by decide)⟩
  · have h1 := hown.1
    have h2 := right_size hr
    simp only [List.length_map, Nat.mul_one] at h1
    exact ⟨a, n, c, 0, rfl, .inr ⟨rfl, hr, GB.of_own hown (by omega), h1.symm, by omega⟩⟩
theorem ttlvKids_walk (aL : Option Addr) (nL cL : Nat) (l : List R6) (aM : Option Addr) (nM cM : Nat) (m : List R6) (w : World) (hal : R6Args w aL nL l) (ham : R6Args w aM nM m) (hT : UT w) :
    Calls Tryd.prog 5 #[.slice aL nL cL, .slice aM nM cM] w fun e w' => e = .returned (.bool true) ∧ Below w.heap.size w w' := by
  have HAL := hid hal; have HAM := hid ham; have HT := hid hT
  have HFI := hid (tree6_fit l hal.nb 30 0); have HFJ := hid (tree6_fit m ham.nb 30 0)
  clear hal ham hT
  obtain ⟨i, hi, hz0, hz1, hz2⟩ := info_parts iInfo
  go_enter Tryd.func5, Tryd.ntmps5
  go_wp2_with fail
  refine (tree_any aL nL cL l 30 0 w (by decide) HAL.out).mono ?_
  rintro e w2 ⟨hb, v1, rfl, hv1, ho1, hf1⟩
  dsimp only
  have HB := hid hb; have HV1 := hid hv1; have HO := hid ho1
  clear hb hv1 ho1 hf1
  go_upto_region 2 with (first | (refine wpList_alloc_obj rfl 29 rfl _ iZero ?_) | (refine wpList_store_obj rfl 29 _ _ rfl w2.heap.size rfl _ rfl _ _ (block_new w2 _) rfl iSize (arr_one v1) ?_; intro w3 hb5 hc5 hs5; have HK := hid hb5; have HC5 := hid hc5; clear hb5 hc5 hs5))
  have hbel : Below w2.heap.size w2 w3 := ((Below.refl _ w2).alloc (Nat.le_refl _) _).trans (HC5.out.below (fun k hk => by rw [List.mem_singleton.1 hk]; exact Nat.le_refl _) (by simp))
  have HB3 := hid (HB.out.trans (Below.mono hbel HB.out.size))
  have HO3 := hid (HO.out.below hbel)
  clear hbel HC5 HB HO
  generalize w2.heap.size = b1 at *
  go_simp
  go_wp2_with fail
  refine (tree_any aM nM cM m 30 0 w3 (by decide) (HAM.out.below HB3.out)).mono ?_
  rintro e w4 ⟨hb, v2, rfl, hv2, ho2, hf2⟩
  dsimp only
  have HB4 := hid (HB3.out.trans (Below.mono hb HB3.out.size)); have HV2 := hid hv2; have HP := hid ho2
  have HO4 := hid (HO3.out.below hb)
  have HK4 := hid ((hb.block _ (block_lt HK.out)).trans HK.out)
  clear hb hv2 ho2 hf2 HB3 HO3 HK HAL HAM
  go_upto_region 3 with (first | (refine wpList_alloc_obj rfl 29 rfl _ iZero ?_) | (refine wpList_store_obj rfl 29 _ _ rfl w4.heap.size rfl _ rfl _ _ (block_new w4 _) rfl iSize (arr_one v2) ?_; intro w5 hb5 hc5 hs5; have HL := hid hb5; have HC5 := hid hc5; clear hb5 hc5 hs5))
  have hbel : Below w4.heap.size w4 w5 := ((Below.refl _ w4).alloc (Nat.le_refl _) _).trans (HC5.out.below (fun k hk => by rw [List.mem_singleton.1 hk]; exact Nat.le_refl _) (by simp))
  have HB5 := hid (HB4.out.trans (Below.mono hbel HB4.out.size))
  have HO5 := hid (HO4.out.below hbel)
  have HP5 := hid (HP.out.below hbel)
  have HK5 := hid ((hbel.block _ (block_lt HK4.out)).trans HK4.out)
  clear hbel HC5 HB4 HO4 HP HK4
  generalize w4.heap.size = b2 at *
  obtain ⟨I, hI⟩ : ∃ I, I = tree6 30 l 0 := ⟨_, rfl⟩
  obtain ⟨J, hJ⟩ : ∃ J, J = tree6 30 m 0 := ⟨_, rfl⟩
  rw [← hI] at HV1 HFI
  rw [← hJ] at HV2 HFJ
  clear hI hJ
  go_simp
  go_wp2_with (refine wpList_load_row rfl 29 _ rfl b1 rfl _ _ _ _ HK5.out Tryd.underlying29 rfl iSize ?_)
  refine (Encode_any v1 _ HO5.out (HT.out.below HB5.out)).mono ?_
  intro e w6 h
  rw [HV1.out] at h
  have hb := h.1
  obtain ⟨a1, n1, c1, z1, rfl, hz⟩ := encT h
  dsimp only
  have HZ1 := hid hz
  have HB6 := hid (HB5.out.trans (Below.mono hb HB5.out.size))
  have HO6 := hid (HO5.out.below hb); have HP6 := hid (HP5.out.below hb)
  have HK6 := hid ((hb.block _ (block_lt HK5.out)).trans HK5.out)
  have HL6 := hid ((hb.block _ (block_lt HL.out)).trans HL.out)
  clear h hb hz HB5 HO5 HP5 HK5 HL
  go_wp2_with (refine wpList_load_row rfl 29 _ rfl b2 rfl _ _ _ _ HL6.out Tryd.underlying29 rfl iSize ?_)
  refine (Encode_any v2 _ HP6.out (HT.out.below HB6.out)).mono ?_
  intro e w7 h
  rw [HV2.out] at h
  have hb := h.1
  obtain ⟨a2, n2, c2, z2, rfl, hz⟩ := encT h
  dsimp only
  have HZ2 := hid hz
  have HG1 := hid (show z1 ≠ 0 ∨ (z1 = 0 ∧ rightI I = true ∧ GB w7 a1 n1 c1 I.enc ∧ n1 = I.enc.length ∧ n1 ≤ 8192) from HZ1.out.imp id (fun ⟨h1, h2, h3, h4⟩ => ⟨h1, h2, h3.below hb, h4⟩))
  have HB7 := hid (HB6.out.trans (Below.mono hb HB6.out.size))
  have HO7 := hid (HO6.out.below hb); have HP7 := hid (HP6.out.below hb)
  have HK7 := hid ((hb.block _ (block_lt HK6.out)).trans HK6.out)
  have HL7 := hid ((hb.block _ (block_lt HL6.out)).trans HL6.out)
  clear h hb hz HB6 HO6 HP6 HK6 HL6 HZ1
  obtain ⟨C2, hC2⟩ : ∃ C, C = v1.arr ++ v2.arr := ⟨_, rfl⟩
  have HC2 := hid hC2
  have hq1 : Below w7.heap.size w7 (w7.alloc (.cells C2 29)) := (Below.refl _ _).alloc (Nat.le_refl _) _
  have hq2 := block_new w7 (.cells C2 29)
  obtain ⟨s4, hs4⟩ : ∃ s : Sl, s = ⟨some ⟨w7.heap.size, 0, none⟩, 2, 2⟩ := ⟨_, rfl⟩
  have HS4 := hid hs4
  have hS4 : SlR (w7.alloc (.cells C2 29)) s4 5 (itmCells [v1, v2]) := by rw [hs4]; exact SlR.block hq2 (by rw [hC2]; simp [itmCells, ItV.cells]) (by simp [itmCells, ItV.cells, ItV.arr]) (by decide)
  have HOT : Hid ((tV v1 v2 s4).ok (w7.alloc (.cells C2 29))) := ItV.ok_iff.2 ⟨SlC.nil _, hS4, fun x hx => by
    rcases List.mem_cons.1 hx with h | h
    · rw [h]; exact HO7.out.below hq1
    · rw [List.mem_singleton.1 h]; exact HP7.out.below hq1⟩
  have HQ1 := hid hq1
  clear hq1 hq2 hs4 hS4 hC2
  go_wp2_with (first | (refine wpList_load_row rfl 29 _ rfl b1 rfl _ _ _ _ HK7.out Tryd.underlying29 rfl iSize ?_) | (refine wpList_load_row rfl 29 _ rfl b2 rfl _ _ _ _ HL7.out Tryd.underlying29 rfl iSize ?_) | (refine wpList_build_two rfl 27 29 (.tmp 31) (.tmp 32) rfl v1 v2 (by rfl) (by rfl) C2 HC2.out i Tryd.underlying27 hi hz0 hz1 ?_) | (refine wpList_build_obj rfl 29 _ rfl #[(0, .int .i64 4325378), (1, .int .i64 1), (4, .slice s4.a s4.n s4.c)] (by rw [HS4.out]; kernel_rfl) _ (iBuildT v1 v2 s4 _) ?_))
  clear HS4 HC2
  generalize w7.alloc (.cells C2 29) = w8 at *
  have HB8 := hid (HB7.out.trans (Below.mono HQ1.out HB7.out.size))
  refine (Encode_any (tV v1 v2 s4) _ HOT.out (HT.out.below HB8.out)).mono ?_
  intro e w9 h
  have hts : (tV v1 v2 s4).it = two6 I J := by rw [ItV.it_eq]; show (⟨4325378, 1, 0, [], [v1.it, v2.it]⟩ : Itm) = _; rw [HV1.out, HV2.out]; rfl
  rw [hts] at h
  have hb := HQ1.out.trans (Below.mono h.1 HQ1.out.size)
  obtain ⟨a3, n3, c3, z3, rfl, hz⟩ := encT h
  dsimp only
  have HZ3 := hid hz
  have HBx := hid (HB7.out.trans (Below.mono hb HB7.out.size))
  have HG19 := hid (show z1 ≠ 0 ∨ (z1 = 0 ∧ rightI I = true ∧ GB w9 a1 n1 c1 I.enc ∧ n1 = I.enc.length ∧ n1 ≤ 8192) from HG1.out.imp id (fun ⟨h1, h2, h3, h4⟩ => ⟨h1, h2, h3.below hb, h4⟩))
  have HG29 := hid (show z2 ≠ 0 ∨ (z2 = 0 ∧ rightI J = true ∧ GB w9 a2 n2 c2 J.enc ∧ n2 = J.enc.length ∧ n2 ≤ 8192) from HZ2.out.imp id (fun ⟨h1, h2, h3, h4⟩ => ⟨h1, h2, h3.below hb, h4⟩))
  have HO9 := hid (HO7.out.below hb); have HP9 := hid (HP7.out.below hb)
  have HK9 := hid ((hb.block _ (block_lt HK7.out)).trans HK7.out)
  have HL9 := hid ((hb.block _ (block_lt HL7.out)).trans HL7.out)
  clear h hb hz hts HB7 HB8 HO7 HP7 HK7 HL7 HG1 HZ2 HQ1 HOT hi hz0 hz1 hz2
  rcases HG19.out with hz | ⟨rfl, hr1, hg1, hn1, hm1⟩
  · have hzz : (z1 != 0) = true := by simpa using hz
    clear hz HG19 HG29 HZ3
    go_wp2_with fail
    refine (known6_any _ (HT.out.below HBx.out)).mono ?_
    rintro e wk ⟨rfl, hbk⟩
    dsimp only
    have HBy := hid (HBx.out.trans (Below.mono hbk HBx.out.size))
    clear hbk HBx
    go_wp2_with fail
    refine (known6_any _ (HT.out.below HBy.out)).mono ?_
    rintro e wl ⟨rfl, hbl⟩
    dsimp only
    have HBz := hid (HBy.out.trans (Below.mono hbl HBy.out.size))
    clear hbl HBy
    go_wp2_with fail
    go_ret
    exact ⟨rfl, HBz.out⟩
  rcases HG29.out with hz | ⟨rfl, hr2, hg2, hn2, hm2⟩
  · have hzz : (z2 != 0) = true := by simpa using hz
    clear hz HG19 HG29 HZ3
    go_wp2_with fail
    refine (known6_any _ (HT.out.below HBx.out)).mono ?_
    rintro e wk ⟨rfl, hbk⟩
    dsimp only
    have HBy := hid (HBx.out.trans (Below.mono hbk HBx.out.size))
    clear hbk HBx
    go_wp2_with fail
    refine (known6_any _ (HT.out.below HBy.out)).mono ?_
    rintro e wl ⟨rfl, hbl⟩
    dsimp only
    have HBz := hid (HBy.out.trans (Below.mono hbl HBy.out.size))
    clear hbl HBy
    go_wp2_with fail
    go_ret
    exact ⟨rfl, HBz.out⟩
  rcases HZ3.out with hz | ⟨rfl, hr3, hg3, hn3, hm3⟩
  · have hzz : (z3 != 0) = true := by simpa using hz
    clear hz HG19 HG29 HZ3
    go_wp2_with fail
    refine (known6_any _ (HT.out.below HBx.out)).mono ?_
    rintro e wk ⟨rfl, hbk⟩
    dsimp only
    have HBy := hid (HBx.out.trans (Below.mono hbk HBx.out.size))
    clear hbk HBx
    go_wp2_with fail
    refine (known6_any _ (HT.out.below HBy.out)).mono ?_
    rintro e wl ⟨rfl, hbl⟩
    dsimp only
    have HBz := hid (HBy.out.trans (Below.mono hbl HBy.out.size))
    clear hbl HBy
    go_wp2_with fail
    go_ret
    exact ⟨rfl, HBz.out⟩
  have HN1 := hid (And.intro hn1 hm1); have HN2 := hid (And.intro hn2 hm2); have HN3' := hid (And.intro hn3 hm3)
  have HGa := hid hg1; have HGb := hid hg2; have HGc := hid hg3; have HR3 := hid hr3
  have h8 : ¬ (n3 : Int) < 8 := by have := enc_len8 (two6 I J); omega
  clear HG19 HG29 HZ3 hr1 hr2 hr3 hg1 hg2 hg3 hn1 hn2 hn3 hm1 hm2 hm3
  go_wp2_with fail
  refine (known6_any _ (HT.out.below HBx.out)).mono ?_
  rintro e wk ⟨rfl, hbk⟩
  dsimp only
  have HBy := hid (HBx.out.trans (Below.mono hbk HBx.out.size))
  have HGa2 := hid (HGa.out.below hbk); have HGb2 := hid (HGb.out.below hbk); have HGc2 := hid (HGc.out.below hbk)
  have HO10 := hid (HO9.out.below hbk); have HP10 := hid (HP9.out.below hbk)
  have HK10 := hid ((hbk.block _ (block_lt HK9.out)).trans HK9.out)
  have HL10 := hid ((hbk.block _ (block_lt HL9.out)).trans HL9.out)
  clear hbk HBx HGa HGb HGc HO9 HP9 HK9 HL9
  obtain ⟨N, hN⟩ : ∃ N, N = n1 + n2 := ⟨_, rfl⟩
  have hwn : IntKind.i64.wrap ((n1 : Int) + (n2 : Int)) = (N : Int) := by rw [hN]; have h1 := HN1.out.2; have h2 := HN2.out.2; rw [IntWalk.i64_in _ (by omega)]; omega
  have HN := hid hN
  clear hN
  go_wp2_with fail
  refine (Decode_any a3 n3 c3 (two6 I J).enc _ HGc2.out (HT.out.below HBy.out)).mono ?_
  rintro e wd ⟨hbd, x, rfl, hx, hxo, _⟩
  have hfit : (two6 I J).fit := (fit_iff _).2 ⟨by show (-9223372036854775808 : Int) ≤ 0 ∧ (0 : Int) < 9223372036854775808; decide, fun y hy => by
    rcases List.mem_cons.1 hy with h | h
    · rw [h]; exact HFI.out
    · rw [List.mem_singleton.1 h]; exact HFJ.out⟩
  rw [decP_enc HR3.out hfit] at hx ⊢
  dsimp only at hx ⊢
  have HX := hid hx; have HXO := hid hxo
  have HB11 := hid (HBy.out.trans (Below.mono hbd HBy.out.size))
  have HGa3 := hid (HGa2.out.below hbd); have HGb3 := hid (HGb2.out.below hbd); have HGc3 := hid (HGc2.out.below hbd)
  have HO11 := hid (HO10.out.below hbd); have HP11 := hid (HP10.out.below hbd)
  have HK11 := hid ((hbd.block _ (block_lt HK10.out)).trans HK10.out)
  have HL11 := hid ((hbd.block _ (block_lt HL10.out)).trans HL10.out)
  clear hbd hx hxo hfit hwn HBy HGa2 HGb2 HGc2 HO10 HP10 HK10 HL10
  go_upto_region 10 with (first | (refine wpList_alloc_obj rfl 29 rfl _ iZero ?_) | (refine wpList_store_obj rfl 29 _ _ rfl wd.heap.size rfl _ rfl _ _ (block_new wd _) rfl iSize (arr_one x) ?_; intro we hb5 hc5 hs5; have HXB := hid hb5; have HC5 := hid hc5; clear hb5 hc5 hs5))
  have hbel : Below wd.heap.size wd we := ((Below.refl _ wd).alloc (Nat.le_refl _) _).trans (HC5.out.below (fun k hk => by rw [List.mem_singleton.1 hk]; exact Nat.le_refl _) (by simp))
  have HBW := hid (HB11.out.trans (Below.mono hbel HB11.out.size))
  have HR1 := hid (HGa3.out.below hbel).rd; have HR2 := hid (HGb3.out.below hbel).rd
  have HC := hid (HGc3.out.below hbel)
  have HO1 := hid (HO11.out.below hbel); have HO2 := hid (HP11.out.below hbel)
  have HK1 := hid ((hbel.block _ (block_lt HK11.out)).trans HK11.out)
  have HK2 := hid ((hbel.block _ (block_lt HL11.out)).trans HL11.out)
  have HXO2 := hid (HXO.out.below hbel)
  clear hbel HC5 HB11 HGa3 HGb3 HGc3 HO11 HP11 HK11 HL11 HXO
  generalize wd.heap.size = b4 at *
  -- the facts of the last line
  have hkm : x.kids.map ItV.it = [I, J] := by
    have h1 := HX.out
    rw [ItV.it_eq] at h1
    exact congrArg Itm.kids h1
  have hkl := (ItV.ok_iff.1 HXO2.out).2.1.klen
  have hk2 : x.ks.n = 2 := by have h1 := congrArg List.length hkm; simp at h1; omega
  obtain ⟨bk, ok, y1, hax, hy1, hrow1⟩ := (ItV.ok_iff.1 HXO2.out).2.1.row (k := 0) (by omega)
  obtain ⟨bk', ok', y2, hax', hy2, hrow2⟩ := (ItV.ok_iff.1 HXO2.out).2.1.row (k := 1) (by omega)
  rw [hax] at hax'
  simp only [Option.some.injEq, Addr.mk.injEq, and_true] at hax'
  obtain ⟨rfl, rfl⟩ := hax'
  have HSM1 : Hid (sameI y1.it v1.it = true) := sameI_yes (by
    have h1 := congrArg (fun l => l[0]?) hkm
    simp only [List.getElem?_map, hy1] at h1
    rw [HV1.out]; simpa using h1)
  have HSM2 : Hid (sameI y2.it v2.it = true) := sameI_yes (by
    have h1 := congrArg (fun l => l[1]?) hkm
    simp only [List.getElem?_map, hy2] at h1
    rw [HV2.out]; simpa using h1)
  have HOY1 := hid ((ItV.ok_iff.1 HXO2.out).2.2 y1 (List.mem_of_getElem? hy1))
  have HOY2 := hid ((ItV.ok_iff.1 HXO2.out).2.2 y2 (List.mem_of_getElem? hy2))
  have HY1 : Hid (we.rangeAt bk ok y1.arr.toList) := by have h := hrow1; rw [Nat.zero_mul, Nat.add_zero] at h; exact h
  have HY2 : Hid (we.rangeAt bk (ok + 5) y2.arr.toList) := by have h := hrow2; rw [Nat.one_mul] at h; exact h
  obtain ⟨kc, hkc⟩ : ∃ kc, kc = x.ks.c := ⟨_, rfl⟩
  have HD4 : Hid (we.cell? ⟨b4, 4, none⟩ = some (.slice (some ⟨bk, ok, none⟩) 2 kc)) := by have h := cell_of_block (j := 4) HXB.out (ar4 x); rw [hax, hk2, ← hkc] at h; exact h
  clear hkm hkl hk2 hax hy1 hy2 hrow1 hrow2 hkc
  obtain ⟨t1, t2, t3, t4⟩ := two_facts HR3.out
  have hNv : N = I.enc.length + J.enc.length := by have h1 := HN.out; have h2 := HN1.out.1; have h3 := HN2.out.1; omega
  have hN8 : N % 8 = 0 := by have h1 := enc_mod I; have h2 := enc_mod J; omega
  obtain ⟨a8, ha8, hg8, hof8⟩ := HC.out.drop (k := 8) (by have := HN3'.out.1; omega)
  rw [t1] at hg8
  have HD8 := hid hg8.rd
  have HSL : Hid (∀ w, (Instr.slice 23 (.slice a3 n3 c3) (some (.int .i64 8)) none none).run Tryd.prog w = .ok (.slice a8 (n3 - 8) (c3 - 8)) w) := fun w => by rw [← ha8]; exact run_slice_back (P := Tryd.prog) 23 5 1 Tryd.underlying23 (fun w => by kernel_rfl) a3 n3 c3 8 (by have := HN3'.out.1; omega) w
  obtain ⟨q3, o3, ha3, hcc⟩ := HC.out.rd.cell 0 (by have := HN3'.out.1; omega)
  have hhb := head_bytes N (I.enc ++ J.enc) (by omega)
  rw [← hNv] at t4
  rw [← t4, ← two_enc] at hhb
  have hcell : ∀ k, k < n3 → we.cell? ⟨q3, o3 + k, none⟩ = some (.int .u8 (((two6 I J).enc.getD k 0).toNat : Int)) := hcc
  have HN3 : Hid (7 < n3 ∧ (8 : Int) ≤ (n3 : Int)) := by have h1 := HN3'.out.1; show _ ∧ _; omega
  have HNI : Hid ((3 : Int) < (n3 : Int) ∧ (4 : Int) < (n3 : Int) ∧ (5 : Int) < (n3 : Int) ∧ (6 : Int) < (n3 : Int) ∧ (7 : Int) < (n3 : Int)) := by have h1 := HN3'.out.1; show _ ∧ _; omega
  obtain ⟨x6, hx6⟩ : ∃ x6 : Int, x6 = ((N / 256 : Nat) : Int) := ⟨_, rfl⟩
  obtain ⟨x7, hx7⟩ : ∃ x7 : Int, x7 = ((N % 256 : Nat) : Int) := ⟨_, rfl⟩
  have HB3 : Hid (we.cell? ⟨q3, o3 + 3, none⟩ = some (.int .u8 1)) := by have h := hcell 3 (by have := HN3.out; omega); rw [hhb.1] at h; exact h
  have HB4 : Hid (we.cell? ⟨q3, o3 + 4, none⟩ = some (.int .u8 0)) := by have h := hcell 4 (by have := HN3.out; omega); rw [hhb.2.1] at h; exact h
  have HB5 : Hid (we.cell? ⟨q3, o3 + 5, none⟩ = some (.int .u8 0)) := by have h := hcell 5 (by have := HN3.out; omega); rw [hhb.2.2.1] at h; exact h
  have HB6 : Hid (we.cell? ⟨q3, o3 + 6, none⟩ = some (.int .u8 x6)) := by have h := hcell 6 (by have := HN3.out; omega); rw [hhb.2.2.2.1, ← hx6] at h; exact h
  have HB7 : Hid (we.cell? ⟨q3, o3 + 7, none⟩ = some (.int .u8 x7)) := by have h := hcell 7 (by have := HN3.out; omega); rw [hhb.2.2.2.2, ← hx7] at h; exact h
  have HW6 : Hid (IntKind.i64.wrap x6 = x6 ∧ IntKind.i64.wrap (x6 * 256) = x6 * 256 ∧ IntKind.i64.wrap (0 + x6 * 256) = x6 * 256 ∧ IntKind.i64.wrap x7 = x7 ∧ IntKind.i64.wrap (x6 * 256 + x7) = (N : Int)) := by
    refine ⟨IntWalk.i64_in _ (by omega), IntWalk.i64_in _ (by omega), ?_, IntWalk.i64_in _ (by omega), ?_⟩
    · rw [Int.zero_add]; exact IntWalk.i64_in _ (by omega)
    · rw [IntWalk.i64_in _ (by omega)]; omega
  have HPK : Hid (pick (N : Int) 8 = 0) := by show (N : Int) % 8 = 0; omega
  obtain ⟨SA, hSA⟩ : ∃ SA : ByteArray, SA = ⟨I.enc.toArray⟩ := ⟨_, rfl⟩
  obtain ⟨SB, hSB⟩ : ∃ SB : ByteArray, SB = ⟨J.enc.toArray⟩ := ⟨_, rfl⟩
  have HAB : Hid ((⟨(I.enc ++ J.enc).toArray⟩ : ByteArray) = SA ++ SB) := by show _ = _; rw [str_app, hSA, hSB]
  have HSA : Hid ((⟨I.enc.toArray⟩ : ByteArray) = SA) := hSA.symm
  have HSB : Hid ((⟨J.enc.toArray⟩ : ByteArray) = SB) := hSB.symm
  have HSZ : Hid (¬ 9223372036854775807 < SA.size + SB.size) := by
    have e1 : SA.size = I.enc.length := by rw [hSA]; exact List.size_toArray
    have e2 : SB.size = J.enc.length := by rw [hSB]; exact List.size_toArray
    show ¬ _
    omega
  subst ha3
  clear hSA hSB hx6 hx7 hhb hcell hcc ha8 hg8 hof8 t1 t2 t3 t4 hNv hN8 HN1 HN2 HN3' HN HC HXB HX HR3 h8
  go_simp
  try simp only [List.append_eq, List.cons_append, List.nil_append]
  refine wp_region_each 73 [.eq (.slice (some ⟨q3, o3, none⟩) n3 c3), .eq (.slice a8 (n3 - 8) (c3 - 8)), .eq (.string (SA ++ SB)), .eq (.slice a1 n1 c1), .eq (.string SA), .eq (.slice a2 n2 c2), .eq (.string SB), .eq (.string (SA ++ SB)), .eq (.bool true), .eq (.bool true), .eq (.slice (some ⟨q3, o3, none⟩) n3 c3), .eq (.pointer (some ⟨q3, o3 + 4, none⟩)), .eq (.int .u8 0), .eq (.int .i64 0), .eq (.int .i64 0), .eq (.slice (some ⟨q3, o3, none⟩) n3 c3), .eq (.pointer (some ⟨q3, o3 + 5, none⟩)), .eq (.int .u8 0), .eq (.int .i64 0), .eq (.int .i64 0), .eq (.int .i64 0), .eq (.slice (some ⟨q3, o3, none⟩) n3 c3), .eq (.pointer (some ⟨q3, o3 + 6, none⟩)), .eq (.int .u8 x6), .eq (.int .i64 x6), .eq (.int .i64 (x6 * 256)), .eq (.int .i64 (x6 * 256)), .eq (.slice (some ⟨q3, o3, none⟩) n3 c3), .eq (.pointer (some ⟨q3, o3 + 7, none⟩)), .eq (.int .u8 x7), .eq (.int .i64 x7), .eq (.int .i64 (N : Int)), .eq (.int .i64 (N : Int)), .eq (.bool true), .eq (.bool true), .eq (.bool true), .eq (.slice (some ⟨q3, o3, none⟩) n3 c3), .eq (.pointer (some ⟨q3, o3 + 3, none⟩)), .eq (.int .u8 1), .eq (.bool true), .eq (.bool true), .eq (.bool true), .eq (.int .i64 0), .eq (.bool true), .eq (.bool true), .eq (.bool true), .eq (.pointer (some ⟨b4, 4, none⟩)), .eq (.slice (some ⟨bk, ok, none⟩) 2 kc), .eq (.int .i64 2), .eq (.bool true), .eq (.bool true), .eq (.bool true), .eq (.pointer (some ⟨b4, 4, none⟩)), .eq (.slice (some ⟨bk, ok, none⟩) 2 kc), .eq (.pointer (some ⟨bk, ok, none⟩)), .eq (.agg y1.arr), .eq (.agg v1.arr), .eq (.bool true), .eq (.bool true), .eq (.bool true), .eq (.pointer (some ⟨b4, 4, none⟩)), .eq (.slice (some ⟨bk, ok, none⟩) 2 kc), .eq (.pointer (some ⟨bk, ok + 5, none⟩)), .eq (.agg y2.arr), .eq (.agg v2.arr), .eq (.bool true), .eq (.bool true), .eq (.bool true), .eq (.int .i64 (N : Int)), .eq (.int .i64 0), .eq (.bool true), .eq (.bool true), .eq (.bool true)] (by kernel_rfl) (by kernel_rfl) (by kernel_rfl) (by kernel_rfl) ?_ ?_
  · all_goals
      refine each_5 ?_ ?_ ?_ ?_ ?_ (each_5 ?_ ?_ ?_ ?_ ?_ (each_5 ?_ ?_ ?_ ?_ ?_ (each_5 ?_ ?_ ?_ ?_ ?_ (each_5 ?_ ?_ ?_ ?_ ?_ (each_5 ?_ ?_ ?_ ?_ ?_ (each_5 ?_ ?_ ?_ ?_ ?_ (each_5 ?_ ?_ ?_ ?_ ?_ (each_5 ?_ ?_ ?_ ?_ ?_ (each_5 ?_ ?_ ?_ ?_ ?_ (each_5 ?_ ?_ ?_ ?_ ?_ (each_5 ?_ ?_ ?_ ?_ ?_ (each_5 ?_ ?_ ?_ ?_ ?_ (each_5 ?_ ?_ ?_ ?_ ?_ (each_c ?_ (each_c ?_ (each_c ?_ (each_n)))))))))))))))))
      · intro w1 hg Ar seen
        have s11 := seen.sl 11 (.slice (some ⟨q3, o3, none⟩) n3 c3)
        refine does_plain rfl fun K Q' hK => ?_
        go_simp; exact hK _ _ (Grow.refl _) rfl
      · intro w1 hg Ar seen
        have e0 := seen.de 0 68
        refine does_plain rfl fun K Q' hK => ?_
        have hs := HSL.out
        go_simp; exact hK _ _ (Grow.refl _) rfl
      · intro w1 hg Ar seen
        have e1 := seen.de 1 69
        refine does_plain rfl fun K Q' hK => ?_
        have rc := run_bytes_str (P := Tryd.prog) (HD8.out.below hg) (c3 - 8) 23 9 5 Tryd.underlying23 Tryd.underlying5 Tryd.underlying9
        go_simp
        exact hK _ _ (Grow.refl _) (congrArg Value.string HAB.out)
      · intro w1 hg Ar seen
        have s7 := seen.sl 7 (.slice a1 n1 c1)
        refine does_plain rfl fun K Q' hK => ?_
        go_simp; exact hK _ _ (Grow.refl _) rfl
      · intro w1 hg Ar seen
        have e3 := seen.de 3 71
        refine does_plain rfl fun K Q' hK => ?_
        have rc := run_bytes_str (P := Tryd.prog) (HR1.out.below hg) c1 23 9 5 Tryd.underlying23 Tryd.underlying5 Tryd.underlying9
        go_simp
        exact hK _ _ (Grow.refl _) (congrArg Value.string HSA.out)
      · intro w1 hg Ar seen
        have s9 := seen.sl 9 (.slice a2 n2 c2)
        refine does_plain rfl fun K Q' hK => ?_
        go_simp; exact hK _ _ (Grow.refl _) rfl
      · intro w1 hg Ar seen
        have e5 := seen.de 5 73
        refine does_plain rfl fun K Q' hK => ?_
        have rc := run_bytes_str (P := Tryd.prog) (HR2.out.below hg) c2 23 9 5 Tryd.underlying23 Tryd.underlying5 Tryd.underlying9
        go_simp
        exact hK _ _ (Grow.refl _) (congrArg Value.string HSB.out)
      · intro w1 hg Ar seen
        have e4 := seen.de 4 72
        have e6 := seen.de 6 74
        refine does_plain rfl fun K Q' hK => ?_
        have hz := HSZ.out
        go_simp; exact hK _ _ (Grow.refl _) rfl
      · intro w1 hg Ar seen
        have e2 := seen.de 2 70
        have e7 := seen.de 7 75
        refine does_plain rfl fun K Q' hK => ?_
        go_simp; exact hK _ _ (Grow.refl _) rfl
      · intro w1 hg Ar seen
        have e8 := seen.de 8 76
        refine does_plain rfl fun K Q' hK => ?_
        go_simp; exact hK _ _ (Grow.refl _) rfl
      · intro w1 hg Ar seen
        have e9 := seen.de 9 77
        have s11 := seen.sl 11 (.slice (some ⟨q3, o3, none⟩) n3 c3)
        refine does_on rfl (by kernel_rfl) e9 fun K Q' hK => ?_
        clear e9
        go_simp; exact hK _ _ (Grow.refl _) rfl
      · intro w1 hg Ar seen
        have e10 := seen.de 10 78
        have e9 := seen.de 9 77
        refine does_on rfl (by kernel_rfl) e9 fun K Q' hK => ?_
        clear e9
        have hn := HNI.out.2.1
        go_simp; exact hK _ _ (Grow.refl _) rfl
      · intro w1 hg Ar seen
        have e11 := seen.de 11 79
        have e9 := seen.de 9 77
        refine does_on rfl (by kernel_rfl) e9 fun K Q' hK => ?_
        clear e9
        have hc := cell_later hg HB4.out
        go_simp; exact hK _ _ (Grow.refl _) rfl
      · intro w1 hg Ar seen
        have e12 := seen.de 12 80
        have e9 := seen.de 9 77
        refine does_on rfl (by kernel_rfl) e9 fun K Q' hK => ?_
        clear e9
        go_simp; exact hK _ _ (Grow.refl _) rfl
      · intro w1 hg Ar seen
        have e13 := seen.de 13 81
        have e9 := seen.de 9 77
        refine does_on rfl (by kernel_rfl) e9 fun K Q' hK => ?_
        clear e9
        go_simp; exact hK _ _ (Grow.refl _) rfl
      · intro w1 hg Ar seen
        have e9 := seen.de 9 77
        have s11 := seen.sl 11 (.slice (some ⟨q3, o3, none⟩) n3 c3)
        refine does_on rfl (by kernel_rfl) e9 fun K Q' hK => ?_
        clear e9
        go_simp; exact hK _ _ (Grow.refl _) rfl
      · intro w1 hg Ar seen
        have e15 := seen.de 15 83
        have e9 := seen.de 9 77
        refine does_on rfl (by kernel_rfl) e9 fun K Q' hK => ?_
        clear e9
        have hn := HNI.out.2.2.1
        go_simp; exact hK _ _ (Grow.refl _) rfl
      · intro w1 hg Ar seen
        have e16 := seen.de 16 84
        have e9 := seen.de 9 77
        refine does_on rfl (by kernel_rfl) e9 fun K Q' hK => ?_
        clear e9
        have hc := cell_later hg HB5.out
        go_simp; exact hK _ _ (Grow.refl _) rfl
      · intro w1 hg Ar seen
        have e17 := seen.de 17 85
        have e9 := seen.de 9 77
        refine does_on rfl (by kernel_rfl) e9 fun K Q' hK => ?_
        clear e9
        go_simp; exact hK _ _ (Grow.refl _) rfl
      · intro w1 hg Ar seen
        have e18 := seen.de 18 86
        have e9 := seen.de 9 77
        refine does_on rfl (by kernel_rfl) e9 fun K Q' hK => ?_
        clear e9
        go_simp; exact hK _ _ (Grow.refl _) rfl
      · intro w1 hg Ar seen
        have e14 := seen.de 14 82
        have e19 := seen.de 19 87
        have e9 := seen.de 9 77
        refine does_on rfl (by kernel_rfl) e9 fun K Q' hK => ?_
        clear e9
        go_simp; exact hK _ _ (Grow.refl _) rfl
      · intro w1 hg Ar seen
        have e9 := seen.de 9 77
        have s11 := seen.sl 11 (.slice (some ⟨q3, o3, none⟩) n3 c3)
        refine does_on rfl (by kernel_rfl) e9 fun K Q' hK => ?_
        clear e9
        go_simp; exact hK _ _ (Grow.refl _) rfl
      · intro w1 hg Ar seen
        have e21 := seen.de 21 89
        have e9 := seen.de 9 77
        refine does_on rfl (by kernel_rfl) e9 fun K Q' hK => ?_
        clear e9
        have hn := HNI.out.2.2.2.1
        go_simp; exact hK _ _ (Grow.refl _) rfl
      · intro w1 hg Ar seen
        have e22 := seen.de 22 90
        have e9 := seen.de 9 77
        refine does_on rfl (by kernel_rfl) e9 fun K Q' hK => ?_
        clear e9
        have hc := cell_later hg HB6.out
        go_simp; exact hK _ _ (Grow.refl _) rfl
      · intro w1 hg Ar seen
        have e23 := seen.de 23 91
        have e9 := seen.de 9 77
        refine does_on rfl (by kernel_rfl) e9 fun K Q' hK => ?_
        clear e9
        have hw := HW6.out.1
        go_simp; exact hK _ _ (Grow.refl _) rfl
      · intro w1 hg Ar seen
        have e24 := seen.de 24 92
        have e9 := seen.de 9 77
        refine does_on rfl (by kernel_rfl) e9 fun K Q' hK => ?_
        clear e9
        have hw := HW6.out.2.1
        go_simp; exact hK _ _ (Grow.refl _) rfl
      · intro w1 hg Ar seen
        have e20 := seen.de 20 88
        have e25 := seen.de 25 93
        have e9 := seen.de 9 77
        refine does_on rfl (by kernel_rfl) e9 fun K Q' hK => ?_
        clear e9
        have hw := HW6.out.2.1; have hw2 := HW6.out.2.2.1
        go_simp; exact hK _ _ (Grow.refl _) rfl
      · intro w1 hg Ar seen
        have e9 := seen.de 9 77
        have s11 := seen.sl 11 (.slice (some ⟨q3, o3, none⟩) n3 c3)
        refine does_on rfl (by kernel_rfl) e9 fun K Q' hK => ?_
        clear e9
        go_simp; exact hK _ _ (Grow.refl _) rfl
      · intro w1 hg Ar seen
        have e27 := seen.de 27 95
        have e9 := seen.de 9 77
        refine does_on rfl (by kernel_rfl) e9 fun K Q' hK => ?_
        clear e9
        have hn := HNI.out.2.2.2.2
        go_simp; exact hK _ _ (Grow.refl _) rfl
      · intro w1 hg Ar seen
        have e28 := seen.de 28 96
        have e9 := seen.de 9 77
        refine does_on rfl (by kernel_rfl) e9 fun K Q' hK => ?_
        clear e9
        have hc := cell_later hg HB7.out
        go_simp; exact hK _ _ (Grow.refl _) rfl
      · intro w1 hg Ar seen
        have e29 := seen.de 29 97
        have e9 := seen.de 9 77
        refine does_on rfl (by kernel_rfl) e9 fun K Q' hK => ?_
        clear e9
        have hw := HW6.out.2.2.2.1
        go_simp; exact hK _ _ (Grow.refl _) rfl
      · intro w1 hg Ar seen
        have e26 := seen.de 26 94
        have e30 := seen.de 30 98
        have e9 := seen.de 9 77
        refine does_on rfl (by kernel_rfl) e9 fun K Q' hK => ?_
        clear e9
        have hw := HW6.out.2.2.2.2
        go_simp; exact hK _ _ (Grow.refl _) rfl
      · intro w1 hg Ar seen
        have e9 := seen.de 9 77
        have s13 := seen.sl 13 (.int .i64 (N : Int))
        refine does_on rfl (by kernel_rfl) e9 fun K Q' hK => ?_
        clear e9
        go_simp; exact hK _ _ (Grow.refl _) rfl
      · intro w1 hg Ar seen
        have e31 := seen.de 31 99
        have e32 := seen.de 32 100
        have e9 := seen.de 9 77
        refine does_on rfl (by kernel_rfl) e9 fun K Q' hK => ?_
        clear e9
        go_simp; exact hK _ _ (Grow.refl _) rfl
      · intro w1 hg Ar seen
        have e9 := seen.de 9 77
        have e33 := seen.de 33 101
        refine does_plain rfl fun K Q' hK => ?_
        go_simp; exact hK _ _ (Grow.refl _) rfl
      · intro w1 hg Ar seen
        have e34 := seen.de 34 102
        refine does_plain rfl fun K Q' hK => ?_
        go_simp; exact hK _ _ (Grow.refl _) rfl
      · intro w1 hg Ar seen
        have e35 := seen.de 35 103
        have s11 := seen.sl 11 (.slice (some ⟨q3, o3, none⟩) n3 c3)
        refine does_on rfl (by kernel_rfl) e35 fun K Q' hK => ?_
        clear e35
        go_simp; exact hK _ _ (Grow.refl _) rfl
      · intro w1 hg Ar seen
        have e36 := seen.de 36 104
        have e35 := seen.de 35 103
        refine does_on rfl (by kernel_rfl) e35 fun K Q' hK => ?_
        clear e35
        have hn := HNI.out.1
        go_simp; exact hK _ _ (Grow.refl _) rfl
      · intro w1 hg Ar seen
        have e37 := seen.de 37 105
        have e35 := seen.de 35 103
        refine does_on rfl (by kernel_rfl) e35 fun K Q' hK => ?_
        clear e35
        have hc := cell_later hg HB3.out
        go_simp; exact hK _ _ (Grow.refl _) rfl
      · intro w1 hg Ar seen
        have e38 := seen.de 38 106
        have e35 := seen.de 35 103
        refine does_on rfl (by kernel_rfl) e35 fun K Q' hK => ?_
        clear e35
        go_simp; exact hK _ _ (Grow.refl _) rfl
      · intro w1 hg Ar seen
        have e35 := seen.de 35 103
        have e39 := seen.de 39 107
        refine does_plain rfl fun K Q' hK => ?_
        go_simp; exact hK _ _ (Grow.refl _) rfl
      · intro w1 hg Ar seen
        have e40 := seen.de 40 108
        refine does_plain rfl fun K Q' hK => ?_
        go_simp; exact hK _ _ (Grow.refl _) rfl
      · intro w1 hg Ar seen
        have e41 := seen.de 41 109
        have s15 := seen.sl 15 (.int .i64 0)
        refine does_on rfl (by kernel_rfl) e41 fun K Q' hK => ?_
        clear e41
        go_simp; exact hK _ _ (Grow.refl _) rfl
      · intro w1 hg Ar seen
        have e42 := seen.de 42 110
        have e41 := seen.de 41 109
        refine does_on rfl (by kernel_rfl) e41 fun K Q' hK => ?_
        clear e41
        go_simp; exact hK _ _ (Grow.refl _) rfl
      · intro w1 hg Ar seen
        have e41 := seen.de 41 109
        have e43 := seen.de 43 111
        refine does_plain rfl fun K Q' hK => ?_
        go_simp; exact hK _ _ (Grow.refl _) rfl
      · intro w1 hg Ar seen
        have e44 := seen.de 44 112
        refine does_plain rfl fun K Q' hK => ?_
        go_simp; exact hK _ _ (Grow.refl _) rfl
      · intro w1 hg Ar seen
        have e45 := seen.de 45 113
        have s14 := seen.sl 14 (.pointer (some ⟨b4, 0, none⟩))
        refine does_on rfl (by kernel_rfl) e45 fun K Q' hK => ?_
        clear e45
        go_simp; exact hK _ _ (Grow.refl _) rfl
      · intro w1 hg Ar seen
        have e46 := seen.de 46 114
        have e45 := seen.de 45 113
        refine does_on rfl (by kernel_rfl) e45 fun K Q' hK => ?_
        clear e45
        have hc := cell_later hg HD4.out
        go_simp; exact hK _ _ (Grow.refl _) rfl
      · intro w1 hg Ar seen
        have e47 := seen.de 47 115
        have e45 := seen.de 45 113
        refine does_on rfl (by kernel_rfl) e45 fun K Q' hK => ?_
        clear e45
        go_simp; exact hK _ _ (Grow.refl _) rfl
      · intro w1 hg Ar seen
        have e48 := seen.de 48 116
        have e45 := seen.de 45 113
        refine does_on rfl (by kernel_rfl) e45 fun K Q' hK => ?_
        clear e45
        go_simp; exact hK _ _ (Grow.refl _) rfl
      · intro w1 hg Ar seen
        have e45 := seen.de 45 113
        have e49 := seen.de 49 117
        refine does_plain rfl fun K Q' hK => ?_
        go_simp; exact hK _ _ (Grow.refl _) rfl
      · intro w1 hg Ar seen
        have e50 := seen.de 50 118
        refine does_plain rfl fun K Q' hK => ?_
        go_simp; exact hK _ _ (Grow.refl _) rfl
      · intro w1 hg Ar seen
        have e51 := seen.de 51 119
        have s14 := seen.sl 14 (.pointer (some ⟨b4, 0, none⟩))
        refine does_on rfl (by kernel_rfl) e51 fun K Q' hK => ?_
        clear e51
        go_simp; exact hK _ _ (Grow.refl _) rfl
      · intro w1 hg Ar seen
        have e52 := seen.de 52 120
        have e51 := seen.de 51 119
        refine does_on rfl (by kernel_rfl) e51 fun K Q' hK => ?_
        clear e51
        have hc := cell_later hg HD4.out
        go_simp; exact hK _ _ (Grow.refl _) rfl
      · intro w1 hg Ar seen
        have e53 := seen.de 53 121
        have e51 := seen.de 51 119
        refine does_on rfl (by kernel_rfl) e51 fun K Q' hK => ?_
        clear e51
        go_simp; exact hK _ _ (Grow.refl _) rfl
      · intro w1 hg Ar seen
        have e54 := seen.de 54 122
        have e51 := seen.de 51 119
        refine does_on rfl (by kernel_rfl) e51 fun K Q' hK => ?_
        clear e51
        refine wp_load_mid 29 _ rfl bk ok (by simp [Act.eval, e54]) y1.arr.toList _ (range_later hg HY1.out) Tryd.underlying29 rfl iSize ?_
        exact hK _ _ (Grow.refl _) rfl
      · intro w1 hg Ar seen
        have e51 := seen.de 51 119
        have s5 := seen.sl 5 (.pointer (some ⟨b1, 0, none⟩))
        refine does_on rfl (by kernel_rfl) e51 fun K Q' hK => ?_
        clear e51
        refine wp_load_row 29 _ rfl b1 (by simp [Act.eval, s5]) _ _ _ _ ((hg.block _ (block_lt HK1.out)).trans HK1.out) Tryd.underlying29 rfl iSize ?_
        exact hK _ _ (Grow.refl _) rfl
      · intro w1 hg Ar seen
        have e55 := seen.de 55 123
        have e56 := seen.de 56 124
        have e51 := seen.de 51 119
        refine does_on rfl (by kernel_rfl) e51 fun K Q' hK => ?_
        clear e51
        go_simp
        refine (same6_any y1 v1 _ (HOY1.out.below hg) (HO1.out.below hg)).mono ?_
        rintro e u ⟨rfl, hb⟩
        exact hK _ _ hb (congrArg Value.bool HSM1.out)
      · intro w1 hg Ar seen
        have e51 := seen.de 51 119
        have e57 := seen.de 57 125
        refine does_plain rfl fun K Q' hK => ?_
        go_simp; exact hK _ _ (Grow.refl _) rfl
      · intro w1 hg Ar seen
        have e58 := seen.de 58 126
        refine does_plain rfl fun K Q' hK => ?_
        go_simp; exact hK _ _ (Grow.refl _) rfl
      · intro w1 hg Ar seen
        have e59 := seen.de 59 127
        have s14 := seen.sl 14 (.pointer (some ⟨b4, 0, none⟩))
        refine does_on rfl (by kernel_rfl) e59 fun K Q' hK => ?_
        clear e59
        go_simp; exact hK _ _ (Grow.refl _) rfl
      · intro w1 hg Ar seen
        have e60 := seen.de 60 128
        have e59 := seen.de 59 127
        refine does_on rfl (by kernel_rfl) e59 fun K Q' hK => ?_
        clear e59
        have hc := cell_later hg HD4.out
        go_simp; exact hK _ _ (Grow.refl _) rfl
      · intro w1 hg Ar seen
        have e61 := seen.de 61 129
        have e59 := seen.de 59 127
        refine does_on rfl (by kernel_rfl) e59 fun K Q' hK => ?_
        clear e59
        go_simp; exact hK _ _ (Grow.refl _) rfl
      · intro w1 hg Ar seen
        have e62 := seen.de 62 130
        have e59 := seen.de 59 127
        refine does_on rfl (by kernel_rfl) e59 fun K Q' hK => ?_
        clear e59
        refine wp_load_mid 29 _ rfl bk (ok + 5) (by simp [Act.eval, e62]) y2.arr.toList _ (range_later hg HY2.out) Tryd.underlying29 rfl iSize ?_
        exact hK _ _ (Grow.refl _) rfl
      · intro w1 hg Ar seen
        have e59 := seen.de 59 127
        have s6 := seen.sl 6 (.pointer (some ⟨b2, 0, none⟩))
        refine does_on rfl (by kernel_rfl) e59 fun K Q' hK => ?_
        clear e59
        refine wp_load_row 29 _ rfl b2 (by simp [Act.eval, s6]) _ _ _ _ ((hg.block _ (block_lt HK2.out)).trans HK2.out) Tryd.underlying29 rfl iSize ?_
        exact hK _ _ (Grow.refl _) rfl
      · intro w1 hg Ar seen
        have e63 := seen.de 63 131
        have e64 := seen.de 64 132
        have e59 := seen.de 59 127
        refine does_on rfl (by kernel_rfl) e59 fun K Q' hK => ?_
        clear e59
        go_simp
        refine (same6_any y2 v2 _ (HOY2.out.below hg) (HO2.out.below hg)).mono ?_
        rintro e u ⟨rfl, hb⟩
        exact hK _ _ hb (congrArg Value.bool HSM2.out)
      · intro w1 hg Ar seen
        have e59 := seen.de 59 127
        have e65 := seen.de 65 133
        refine does_plain rfl fun K Q' hK => ?_
        go_simp; exact hK _ _ (Grow.refl _) rfl
      · intro w1 hg Ar seen
        have e66 := seen.de 66 134
        refine does_plain rfl fun K Q' hK => ?_
        go_simp; exact hK _ _ (Grow.refl _) rfl
      · intro w1 hg Ar seen
        have e67 := seen.de 67 135
        have s13 := seen.sl 13 (.int .i64 (N : Int))
        refine does_on rfl (by kernel_rfl) e67 fun K Q' hK => ?_
        clear e67
        go_simp; exact hK _ _ (Grow.refl _) rfl
      · intro w1 hg Ar seen
        have e68 := seen.de 68 136
        have e67 := seen.de 67 135
        refine does_on rfl (by kernel_rfl) e67 fun K Q' hK => ?_
        clear e67
        go_simp
        refine (pick_any (N : Int) 8 _ (by omega) (by omega)).mono ?_
        rintro e u ⟨rfl, rfl⟩
        exact hK _ _ (Grow.refl _) (congrArg (Value.int .i64) HPK.out)
      · intro w1 hg Ar seen
        have e69 := seen.de 69 137
        have e67 := seen.de 67 135
        refine does_on rfl (by kernel_rfl) e67 fun K Q' hK => ?_
        clear e67
        go_simp; exact hK _ _ (Grow.refl _) rfl
      · intro w1 hg Ar seen
        have e67 := seen.de 67 135
        have e70 := seen.de 70 138
        refine does_plain rfl fun K Q' hK => ?_
        go_simp; exact hK _ _ (Grow.refl _) rfl
      · intro w1 hg Ar seen
        have e71 := seen.de 71 139
        refine does_plain rfl fun K Q' hK => ?_
        go_simp; exact hK _ _ (Grow.refl _) rfl
  intro w1 hg
  refine upon_w' (js := [0, 1, 2, 3, 4, 5, 6, 7, 8, 9, 10, 11, 12, 13, 14, 15, 16, 17, 18, 19, 20, 21, 22, 23, 24, 25, 26, 27, 28, 29, 30, 31, 32, 33, 34, 35, 36, 37, 38, 39, 40, 41, 42, 43, 44, 45, 46, 47, 48, 49, 50, 51, 52, 53, 54, 55, 56, 57, 58, 59, 60, 61, 62, 63, 64, 65, 66, 67, 68, 69, 70, 71, 72]) (by rfl) ?_
  refine upon_e (some 68) (upon_e (some 69) (upon_e (some 70) (upon_e (some 71) (upon_e (some 72) (upon_e (some 73) (upon_e (some 74) (upon_e (some 75) (upon_e (some 76) (upon_e (some 77) (upon_e (some 78) (upon_e (some 79) (upon_e (some 80) (upon_e (some 81) (upon_e (some 82) (upon_e (some 83) (upon_e (some 84) (upon_e (some 85) (upon_e (some 86) (upon_e (some 87) (upon_e (some 88) (upon_e (some 89) (upon_e (some 90) (upon_e (some 91) (upon_e (some 92) (upon_e (some 93) (upon_e (some 94) (upon_e (some 95) (upon_e (some 96) (upon_e (some 97) (upon_e (some 98) (upon_e (some 99) (upon_e (some 100) (upon_e (some 101) (upon_e (some 102) (upon_e (some 103) (upon_e (some 104) (upon_e (some 105) (upon_e (some 106) (upon_e (some 107) (upon_e (some 108) (upon_e (some 109) (upon_e (some 110) (upon_e (some 111) (upon_e (some 112) (upon_e (some 113) (upon_e (some 114) (upon_e (some 115) (upon_e (some 116) (upon_e (some 117) (upon_e (some 118) (upon_e (some 119) (upon_e (some 120) (upon_e (some 121) (upon_e (some 122) (upon_e (some 123) (upon_e (some 124) (upon_e (some 125) (upon_e (some 126) (upon_e (some 127) (upon_e (some 128) (upon_e (some 129) (upon_e (some 130) (upon_e (some 131) (upon_e (some 132) (upon_e (some 133) (upon_e (some 134) (upon_e (some 135) (upon_e (some 136) (upon_e (some 137) (upon_e (some 138) (upon_e (some 139) (upon_e (some 4) (upon_n ?_)))))))))))))))))))))))))))))))))))))))))))))))))))))))))))))))))))))))))
  go_simp
  have HG := hid hg
  clear hg
  go_simp
  go_wp2_with fail
  go_ret
  exact ⟨rfl, HBW.out.trans (Below.mono HG.out HBW.out.size)⟩
end Go.Proofs.YtmpajhacigjloaaDoor
