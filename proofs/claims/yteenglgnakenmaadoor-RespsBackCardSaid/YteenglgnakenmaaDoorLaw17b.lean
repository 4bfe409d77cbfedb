/- RespsBack's walk. -/
import Derived.Test.YteenglgnakenmaaDoorRsB
import Derived.Test.YteenglgnakenmaaDoorRspB
import Derived.Test.YteenglgnakenmaaDoorTtlL
import Derived.Test.YteenglgnakenmaaDoorTtl8
namespace Go.Proofs.YteenglgnakenmaaDoor
open Go.RowKit
set_option linter.unusedVariables false
set_option linter.unusedSimpArgs false
set_option maxRecDepth 1000000
set_option maxHeartbeats 3200000
theorem wpList_load_on7 {P : Program} {w : World} {ops : Array Oper} {rest : List Oper} {o : Oper} {a : Act} {Q : Exit → Act → World → Prop} (ty : TypeId) (x : Operand) (ho : o.op = .load ty x) (hgd : Region.wanted o (yielded ops a.tmps) = true)
    (g : Nat) (hx : a.eval x = .pointer (some ⟨g, 0, none⟩)) (t : TypeId) (cs : Array Value) (fr : Nat × Nat) (d : TypeDesc) (hg : w.heap[g]? = some (.cells cs t fr))
    (hu : P.underlying ty = some d) (hd : (match d with | .struct _ | .array _ _ => true | _ => false) = true) (hi : (P.info? ty).map (·.size) = some cs.size)
    (h : wpList P ops Q rest (a.put o.dst (.agg cs)) w) : wpList P ops Q (o :: rest) a w := wpList_load_on hgd ty x ho g hx t cs fr d hg hu hd hi h
theorem GB.of_own7 {w : World} {base : Nat} {e : TypeId} {a : Option Addr} {n c : Nat} {l : List UInt8} (h : w.ownsRow base e 1 (.slice a n c) n (l.map B8)) (hn : n ≤ 140737488355328) : GB w a n c l := by
  obtain ⟨h1, h2, _⟩ := own_slice h
  refine ⟨RdB.of_own h, h2, h1, fun q off sp hq => ?_, hn⟩
  rcases h.2 with ⟨hv, _⟩ | ⟨g, cap, cur, hv, _, hh, _⟩
  · simp only [Value.slice.injEq] at hv
    rw [hv.1] at hq; cases hq
  · simp only [Value.slice.injEq] at hv
    rw [hv.1] at hq
    cases hq
    exact (Array.getElem?_eq_some_iff.1 hh).1
theorem respsBack_walk (tm : Int) (htm : -9223372036854775808 ≤ tm ∧ tm ≤ 9223372036854775807) (l : List RwD) (a : Option Addr) (n c : Nat) (w : World) (hal : RwArgs w a n l) (hT : UT w) :
    Calls Tryd.prog 3 #[.int .i64 tm, .slice a n c] w fun e w' => e = .returned (.bool true) ∧ Below w.heap.size w w' := by
  have HT := hid hT; have HAL := hid hal
  have HTM := hid htm
  clear hT hal htm
  go_enter Tryd.func3, Tryd.ntmps3
  go_wp2_with fail
  refine (response_all tm l a n c w HAL.out).mono ?_
  rintro e w1 ⟨r, rfl, hro, hrn, hrg, hrt, hb⟩
  dsimp only
  have HRO := hid hro; have HRN := hid hrn; have HRG := hid hrg; have HB := hid hb
  have HRT : Hid (-9223372036854775808 ≤ r.time ∧ r.time < 9223372036854775808) := by have h := HTM.out; rw [← hrt] at h; show _ ∧ _; omega
  clear hro hrn hrg hrt hb HAL HTM
  go_upto_region 2 with (first | (refine wpList_alloc_obj rfl 25 rfl _ pZero ?_) | (refine wpList_store_obj rfl 25 _ _ rfl w1.heap.size rfl r.arr rfl _ _ (block_new w1 _) rfl pSize (parr_one r) ?_; intro w2 hb5 hc5 hs5; have K5 := hid hb5; have HC5 := hid hc5; clear hb5 hc5 hs5))
  have hbel : Below w1.heap.size w1 w2 := ((Below.refl _ w1).alloc (Nat.le_refl _) _).trans (HC5.out.below (fun k hk => by rw [List.mem_singleton.1 hk]; exact Nat.le_refl _) (by simp))
  have HRO' := hid (HRO.out.below hbel)
  have HB' := hid (HB.out.trans (Below.mono hbel HB.out.size))
  clear HRO HB
  have HRO := HRO'
  have HB := HB'
  clear HRO' HB'
  clear hbel HC5
  generalize w1.heap.size = b5 at *
  have HLN : Hid (r.items.length = r.its.n) := HRO.out.its.rslen
  go_wp2_with (refine wpList_load_row rfl 25 _ rfl b5 rfl _ _ _ _ K5.out Tryd.underlying25 rfl pSize ?_)
  refine (rLay_any r _ HRO.out (fun x hx => Nat.le_trans (HRG.out x hx).ms (by decide)) (Nat.le_trans HRN.out (by decide))).mono ?_
  rintro e w3 ⟨i, rfl, hii, hio, -, hb⟩
  dsimp only
  have HII := hid hii; have HIO := hid hio
  have hb' := hb
  have HRO' := hid (HRO.out.below hb')
  have HB' := hid (HB.out.trans (Below.mono hb' HB.out.size))
  have K5' := hid ((hb'.block _ (block_lt K5.out)).trans K5.out)
  clear HRO HB K5
  have HRO := HRO'
  have HB := HB'
  have K5 := K5'
  clear HRO' HB' K5'
  clear hii hio hb hb'
  have HPL : Hid (rightI (layRs r.rq) = true ∧ (layRs r.rq).fit ∧ readRs (layRs r.rq) = .ok r.rq ∧ (layRs r.rq).kids.length ≤ 9) := by
    have hg : ∀ x ∈ r.rq.items, GoodI x := fun x hx => by
      obtain ⟨y, hy, rfl⟩ := List.mem_map.1 hx
      exact HRG.out y hy
    have hl : r.rq.items.length ≤ 8 := by
      have h1 := HLN.out; have h2 := HRN.out
      show (r.items.map RsIV.rq).length ≤ 8
      rw [List.length_map]; omega
    have h3 := resp_right hg hl HRT.out
    exact ⟨h3.1, h3.2, readRs_lay hg, by show (layRsHead _ _ :: (r.rq.items.map layRsI)).length ≤ 9; rw [List.length_cons, List.length_map]; omega⟩
  clear HRG HRT HLN
  go_upto_region 3 with (first | (refine wpList_alloc_obj rfl 30 rfl _ iZero ?_) | (refine wpList_store_obj rfl 30 _ _ rfl w3.heap.size rfl i.arr rfl _ _ (block_new w3 _) rfl iSize (arr_one i) ?_; intro w4 hb5 hc5 hs5; have K6 := hid hb5; have HC5 := hid hc5; clear hb5 hc5 hs5))
  have hbel : Below w3.heap.size w3 w4 := ((Below.refl _ w3).alloc (Nat.le_refl _) _).trans (HC5.out.below (fun k hk => by rw [List.mem_singleton.1 hk]; exact Nat.le_refl _) (by simp))
  have HRO' := hid (HRO.out.below hbel)
  have HB' := hid (HB.out.trans (Below.mono hbel HB.out.size))
  have K5' := hid ((hbel.block _ (block_lt K5.out)).trans K5.out)
  have HIO' := hid (HIO.out.below hbel)
  clear HRO HB K5 HIO
  have HRO := HRO'
  have HB := HB'
  have K5 := K5'
  have HIO := HIO'
  clear HRO' HB' K5' HIO'
  clear hbel HC5
  generalize w3.heap.size = b6 at *
  go_wp2_with (refine wpList_load_row rfl 30 _ rfl b6 rfl _ _ _ _ K6.out Tryd.underlying30 rfl iSize ?_)
  refine (rread_any i _ HIO.out (by rw [HII.out]; exact Nat.le_trans HPL.out.2.2.2 (by decide))).mono ?_
  intro e w5 h
  rw [HII.out, HPL.out.2.2.1] at h
  obtain ⟨a5, rfl, hae, hao, hb⟩ := h
  dsimp only
  have HAE := hid hae; have HAO := hid hao
  have HRO' := hid (HRO.out.below hb)
  have HB' := hid (HB.out.trans (Below.mono hb HB.out.size))
  have K5' := hid ((hb.block _ (block_lt K5.out)).trans K5.out)
  have HIO' := hid (HIO.out.below hb)
  have K6' := hid ((hb.block _ (block_lt K6.out)).trans K6.out)
  clear HRO HB K5 HIO K6
  have HRO := HRO'
  have HB := HB'
  have K5 := K5'
  have HIO := HIO'
  have K6 := K6'
  clear HRO' HB' K5' HIO' K6'
  clear hae hao hb
  go_upto_region 4 with (first | (refine wpList_alloc_obj rfl 25 rfl _ pZero ?_) | (refine wpList_store_obj rfl 25 _ _ rfl w5.heap.size rfl a5.arr rfl _ _ (block_new w5 _) rfl pSize (parr_one a5) ?_; intro w6 hb5 hc5 hs5; have K7 := hid hb5; have HC5 := hid hc5; clear hb5 hc5 hs5))
  have hbel : Below w5.heap.size w5 w6 := ((Below.refl _ w5).alloc (Nat.le_refl _) _).trans (HC5.out.below (fun k hk => by rw [List.mem_singleton.1 hk]; exact Nat.le_refl _) (by simp))
  have HRO' := hid (HRO.out.below hbel)
  have HB' := hid (HB.out.trans (Below.mono hbel HB.out.size))
  have K5' := hid ((hbel.block _ (block_lt K5.out)).trans K5.out)
  have HIO' := hid (HIO.out.below hbel)
  have K6' := hid ((hbel.block _ (block_lt K6.out)).trans K6.out)
  have HAO' := hid (HAO.out.below hbel)
  clear HRO HB K5 HIO K6 HAO
  have HRO := HRO'
  have HB := HB'
  have K5 := K5'
  have HIO := HIO'
  have K6 := K6'
  have HAO := HAO'
  clear HRO' HB' K5' HIO' K6' HAO'
  clear hbel HC5
  generalize w5.heap.size = b7 at *
  go_wp2_with (refine wpList_load_row rfl 30 _ rfl b6 rfl _ _ _ _ K6.out Tryd.underlying30 rfl iSize ?_)
  refine (Encode_any i _ HIO.out (HT.out.below HB.out)).mono ?_
  rintro e w7 ⟨hb, h⟩
  rw [HII.out] at h
  rcases h with ⟨hr, rfl⟩ | ⟨hr, ae, ne, ce, rfl, hown⟩
  · rw [HPL.out.1] at hr; cases hr
  dsimp only
  have HGE : Hid (GB w7 ae ne ce (layRs r.rq).enc) := by
    have h1 := hown.1
    have h2 := right_size hr
    simp only [List.length_map, Nat.mul_one] at h1
    exact GB.of_own7 hown (by omega)
  have HRO' := hid (HRO.out.below hb)
  have HB' := hid (HB.out.trans (Below.mono hb HB.out.size))
  have K5' := hid ((hb.block _ (block_lt K5.out)).trans K5.out)
  have HIO' := hid (HIO.out.below hb)
  have K6' := hid ((hb.block _ (block_lt K6.out)).trans K6.out)
  have HAO' := hid (HAO.out.below hb)
  have K7' := hid ((hb.block _ (block_lt K7.out)).trans K7.out)
  clear HRO HB K5 HIO K6 HAO K7
  have HRO := HRO'
  have HB := HB'
  have K5 := K5'
  have HIO := HIO'
  have K6 := K6'
  have HAO := HAO'
  have K7 := K7'
  clear HRO' HB' K5' HIO' K6' HAO' K7'
  clear hb hr hown
  go_wp2_with fail
  refine (Decode_any ae ne ce _ _ HGE.out (HT.out.below HB.out)).mono ?_
  rw [decP_enc HPL.out.1 HPL.out.2.1]
  rintro e w8 ⟨hb, j, rfl, hji, hjo, -⟩
  dsimp only at hji ⊢
  have HJI := hid hji; have HJO := hid hjo
  have HRO' := hid (HRO.out.below hb)
  have HB' := hid (HB.out.trans (Below.mono hb HB.out.size))
  have K5' := hid ((hb.block _ (block_lt K5.out)).trans K5.out)
  have HIO' := hid (HIO.out.below hb)
  have K6' := hid ((hb.block _ (block_lt K6.out)).trans K6.out)
  have HAO' := hid (HAO.out.below hb)
  have K7' := hid ((hb.block _ (block_lt K7.out)).trans K7.out)
  clear HRO HB K5 HIO K6 HAO K7
  have HRO := HRO'
  have HB := HB'
  have K5 := K5'
  have HIO := HIO'
  have K6 := K6'
  have HAO := HAO'
  have K7 := K7'
  clear HRO' HB' K5' HIO' K6' HAO' K7'
  clear hb hji hjo HGE
  go_upto_region 6 with (first | (refine wpList_alloc_obj rfl 30 rfl _ iZero ?_) | (refine wpList_store_obj rfl 30 _ _ rfl w8.heap.size rfl j.arr rfl _ _ (block_new w8 _) rfl iSize (arr_one j) ?_; intro w9 hb5 hc5 hs5; have K11 := hid hb5; have HC5 := hid hc5; clear hb5 hc5 hs5))
  have hbel : Below w8.heap.size w8 w9 := ((Below.refl _ w8).alloc (Nat.le_refl _) _).trans (HC5.out.below (fun k hk => by rw [List.mem_singleton.1 hk]; exact Nat.le_refl _) (by simp))
  have HRO' := hid (HRO.out.below hbel)
  have HB' := hid (HB.out.trans (Below.mono hbel HB.out.size))
  have K5' := hid ((hbel.block _ (block_lt K5.out)).trans K5.out)
  have HIO' := hid (HIO.out.below hbel)
  have K6' := hid ((hbel.block _ (block_lt K6.out)).trans K6.out)
  have HAO' := hid (HAO.out.below hbel)
  have K7' := hid ((hbel.block _ (block_lt K7.out)).trans K7.out)
  have HJO' := hid (HJO.out.below hbel)
  clear HRO HB K5 HIO K6 HAO K7 HJO
  have HRO := HRO'
  have HB := HB'
  have K5 := K5'
  have HIO := HIO'
  have K6 := K6'
  have HAO := HAO'
  have K7 := K7'
  have HJO := HJO'
  clear HRO' HB' K5' HIO' K6' HAO' K7' HJO'
  clear hbel HC5
  generalize w8.heap.size = b11 at *
  go_wp2_with fail
  refine (known17_any _).mono ?_
  rintro e w10 ⟨rfl, hb⟩
  dsimp only
  have HRO' := hid (HRO.out.below hb)
  have HB' := hid (HB.out.trans (Below.mono hb HB.out.size))
  have K5' := hid ((hb.block _ (block_lt K5.out)).trans K5.out)
  have HIO' := hid (HIO.out.below hb)
  have K6' := hid ((hb.block _ (block_lt K6.out)).trans K6.out)
  have HAO' := hid (HAO.out.below hb)
  have K7' := hid ((hb.block _ (block_lt K7.out)).trans K7.out)
  have HJO' := hid (HJO.out.below hb)
  have K11' := hid ((hb.block _ (block_lt K11.out)).trans K11.out)
  clear HRO HB K5 HIO K6 HAO K7 HJO K11
  have HRO := HRO'
  have HB := HB'
  have K5 := K5'
  have HIO := HIO'
  have K6 := K6'
  have HAO := HAO'
  have K7 := K7'
  have HJO := HJO'
  have K11 := K11'
  clear HRO' HB' K5' HIO' K6' HAO' K7' HJO' K11'
  clear hb
  go_wp2_with (first | (refine wpList_load_on7 25 _ rfl (by kernel_rfl) b7 rfl _ _ _ _ K7.out Tryd.underlying25 rfl pSize ?_) | (refine wpList_load_on7 25 _ rfl (by kernel_rfl) b5 rfl _ _ _ _ K5.out Tryd.underlying25 rfl pSize ?_))
  refine (rsame_any a5 r _ HAO.out HRO.out HAE.out).mono ?_
  rintro e w11 ⟨rfl, hb⟩
  dsimp only
  have HRO' := hid (HRO.out.below hb)
  have HB' := hid (HB.out.trans (Below.mono hb HB.out.size))
  have K5' := hid ((hb.block _ (block_lt K5.out)).trans K5.out)
  have HIO' := hid (HIO.out.below hb)
  have K6' := hid ((hb.block _ (block_lt K6.out)).trans K6.out)
  have HAO' := hid (HAO.out.below hb)
  have K7' := hid ((hb.block _ (block_lt K7.out)).trans K7.out)
  have HJO' := hid (HJO.out.below hb)
  have K11' := hid ((hb.block _ (block_lt K11.out)).trans K11.out)
  clear HRO HB K5 HIO K6 HAO K7 HJO K11
  have HRO := HRO'
  have HB := HB'
  have K5 := K5'
  have HIO := HIO'
  have K6 := K6'
  have HAO := HAO'
  have K7 := K7'
  have HJO := HJO'
  have K11 := K11'
  clear HRO' HB' K5' HIO' K6' HAO' K7' HJO' K11'
  clear hb
  go_wp2_with (first | (refine wpList_load_on7 30 _ rfl (by kernel_rfl) b6 rfl _ _ _ _ K6.out Tryd.underlying30 rfl iSize ?_) | (refine wpList_load_on7 30 _ rfl (by kernel_rfl) b11 rfl _ _ _ _ K11.out Tryd.underlying30 rfl iSize ?_))
  refine (same6_any i j _ HIO.out HJO.out).mono ?_
  rintro e w12 ⟨rfl, hb⟩
  dsimp only
  rw [HII.out, HJI.out, sameI_yes rfl]
  have HB2 := hid (HB.out.trans (Below.mono hb HB.out.size))
  clear hb
  go_wp2_with fail
  go_ret
  exact ⟨rfl, HB2.out⟩
end Go.Proofs.YteenglgnakenmaaDoor
