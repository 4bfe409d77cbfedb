/- law5.known. -/
import Derived.Test.YtipkeifpkemcdaaMStB
import Derived.Test.YtipkeifpkemcdaaDisk6
import Derived.Test.YtipkeifpkemcdaaDisk5
import Derived.Lib.SmallJoins
namespace Go.Proofs.Ytipkeifpkemcdaa
open Go.RowKit Go.Maps Go.ChangeMaps Go.MapKept
set_option linter.unusedVariables false
set_option linter.unusedSimpArgs false
set_option maxRecDepth 1000000
set_option maxHeartbeats 6400000
theorem ChQ.of1 {w : World} {P : Nat → Prop} {g : Nat} {x : ChD} {T : TypeId} (hb : w.heap[g]? = some (.cells x.cells.toArray T (0, 0))) (hx : x.ok w) (hg : P g) (hv : ∀ b off sp, x.va = some ⟨b, off, sp⟩ → P b) : ChQ w P ⟨some ⟨g, 0, none⟩, 1, 1⟩ [x] := by
  refine ⟨⟨rfl, (by show 1 ≤ _; decide), fun k hk => ?_⟩, (fun h => by cases h), fun b off sp e => by cases e; exact hg, fun y hy b off sp e => by rw [List.mem_singleton.1 hy] at e; exact hv b off sp e⟩
  have hk' : k < 1 := hk
  obtain rfl : k = 0 := by omega
  refine ⟨g, 0, x, rfl, rfl, fun j v hv => ?_, hx⟩
  rw [Nat.zero_mul, Nat.zero_add]
  exact cell_of_block (j := j) hb (by simpa using hv)
theorem UnC.of1 {w : World} {P : Nat → Prop} {g : Nat} {sl : Sl} {l : List ChD} {T : TypeId} (hb : w.heap[g]? = some (.cells #[.slice sl.a sl.n sl.c] T (0, 0))) (hc : ChQ w P sl l) (hg : P g) : UnC w P ⟨some ⟨g, 0, none⟩, 1, 1⟩ [sl] [l] := by
  refine ⟨⟨rfl, fun j hj => ⟨g, 0, rfl, fun i u hu => ?_⟩⟩, rfl, fun b off sp e => by cases e; exact hg, fun k sl' l' h1 h2 => ?_⟩
  · cases i with
    | zero => simp only [List.map_cons, List.map_nil, List.getElem?_cons_zero, Option.some.injEq] at hu; rw [← hu]; exact cell_of_block (j := 0) hb rfl
    | succ i => simp at hu
  · cases k with
    | zero =>
      simp only [List.getElem?_cons_zero, Option.some.injEq] at h1 h2
      rw [← h1, ← h2]
      exact hc
    | succ k => simp at h1
theorem Runs.nil_inv {N U U' : Nat} {m m' : Pm} {css : List (List Cg)} (h : Runs N U m css U' m') (e : css = []) : U' = U ∧ m' = m := by
  cases h with
  | nil => exact ⟨rfl, rfl⟩
  | snoc h1 h2 => simp at e
theorem Runs.snoc_inv {N U U' : Nat} {m m' : Pm} {css css' : List (List Cg)} {cs : List Cg} (h : Runs N U m css U' m') (e : css = css' ++ [cs]) : ∃ U1 m1, Runs N U m css' U1 m1 ∧ StepC N U1 m1 cs U' m' := by
  cases h with
  | nil => simp at e
  | snoc h1 h2 =>
    obtain ⟨e1, e2⟩ := List.append_inj' e rfl
    cases e2
    rw [← e1]
    exact ⟨_, _, h1, h2⟩
theorem Runs.one_inv {N U U' : Nat} {m m' : Pm} {cs : List Cg} (h : Runs N U m [cs] U' m') : StepC N U m cs U' m' := by
  obtain ⟨U1, m1, h1, h2⟩ := h.snoc_inv (css' := []) rfl
  obtain ⟨rfl, rfl⟩ := h1.nil_inv rfl
  exact h2
theorem crashed_len4 (fates : List Int) : ∀ (l : List (Nat × List UInt8)) (sec : List (List UInt8 × Bool)) (i : Nat), (crashed fates sec i l).length = sec.length
  | [], _, _ => rfl
  | x :: l, sec, i => by
    unfold crashed
    rw [crashed_len4 fates l]
    split
    · simp
    · split <;> simp
theorem crash_len4 (s : DSt) (fates : List Int) : (s.crash fates).sec.length = s.sec.length := crashed_len4 _ _ _ _
def kC : Cg := ⟨[97], true, [49]⟩
theorem kC_ok : okCs [kC] = true := by decide
theorem kC_len : unitSize (layCs [kC]).length = 1 := by decide +kernel
/-- The three blocks of the example's unit. -/
theorem known_made {w2 : World} : UnC (((w2.alloc (Obj.cells #[Value.int IntKind.u8 49] 5 (1, 2))).alloc (Obj.cells (ChD.mk ⟨#[97]⟩ true (some ⟨w2.heap.size, 0, none⟩) 1 1 [49]).cells.toArray 59)).alloc (Obj.cells #[Value.slice (some ⟨w2.heap.size + 1, 0, none⟩) 1 1] 23))
      (fun q => w2.heap.size ≤ q ∧ q < w2.heap.size + 3) ⟨some ⟨w2.heap.size + 1 + 1, 0, none⟩, 1, 1⟩ [⟨some ⟨w2.heap.size + 1, 0, none⟩, 1, 1⟩] [[ChD.mk ⟨#[97]⟩ true (some ⟨w2.heap.size, 0, none⟩) 1 1 [49]]] ∧
    Below w2.heap.size w2 (((w2.alloc (Obj.cells #[Value.int IntKind.u8 49] 5 (1, 2))).alloc (Obj.cells (ChD.mk ⟨#[97]⟩ true (some ⟨w2.heap.size, 0, none⟩) 1 1 [49]).cells.toArray 59)).alloc (Obj.cells #[Value.slice (some ⟨w2.heap.size + 1, 0, none⟩) 1 1] 23)) ∧
    (((w2.alloc (Obj.cells #[Value.int IntKind.u8 49] 5 (1, 2))).alloc (Obj.cells (ChD.mk ⟨#[97]⟩ true (some ⟨w2.heap.size, 0, none⟩) 1 1 [49]).cells.toArray 59)).alloc (Obj.cells #[Value.slice (some ⟨w2.heap.size + 1, 0, none⟩) 1 1] 23)).heap.size = w2.heap.size + 3 := by
  obtain ⟨x, hx⟩ : ∃ x, ChD.mk ⟨#[97]⟩ true (some ⟨w2.heap.size, 0, none⟩) 1 1 [49] = x := ⟨_, rfl⟩
  rw [hx]
  have h1 := block_new w2 (Obj.cells #[Value.int IntKind.u8 49] 5 (1, 2))
  have s1 : (w2.alloc (Obj.cells #[Value.int IntKind.u8 49] 5 (1, 2))).heap.size = w2.heap.size + 1 := by simp
  have b1 : Below w2.heap.size w2 (w2.alloc (Obj.cells #[Value.int IntKind.u8 49] 5 (1, 2))) := (Below.refl _ _).alloc (Nat.le_refl _) _
  generalize w2.alloc (Obj.cells #[Value.int IntKind.u8 49] 5 (1, 2)) = u1 at *
  have h2 := block_new u1 (Obj.cells x.cells.toArray 59)
  have s2 : (u1.alloc (Obj.cells x.cells.toArray 59)).heap.size = u1.heap.size + 1 := by simp
  have b2 : Below u1.heap.size u1 (u1.alloc (Obj.cells x.cells.toArray 59)) := (Below.refl _ _).alloc (Nat.le_refl _) _
  generalize u1.alloc (Obj.cells x.cells.toArray 59) = u2 at *
  have h3 := block_new u2 (Obj.cells #[Value.slice (some ⟨w2.heap.size + 1, 0, none⟩) 1 1] 23)
  have s3 : (u2.alloc (Obj.cells #[Value.slice (some ⟨w2.heap.size + 1, 0, none⟩) 1 1] 23)).heap.size = u2.heap.size + 1 := by simp
  have b3 : Below u2.heap.size u2 (u2.alloc (Obj.cells #[Value.slice (some ⟨w2.heap.size + 1, 0, none⟩) 1 1] 23)) := (Below.refl _ _).alloc (Nat.le_refl _) _
  generalize u2.alloc (Obj.cells #[Value.slice (some ⟨w2.heap.size + 1, 0, none⟩) 1 1] 23) = u3 at *
  rw [s1] at h2
  rw [s2, s1] at h3
  have g1 : u3.heap[w2.heap.size]? = _ := (b3.block _ (by omega)).trans ((b2.block _ (by omega)).trans h1)
  have g2 : u3.heap[w2.heap.size + 1]? = _ := (b3.block _ (by omega)).trans h2
  have hxo : x.ok u3 := by
    rw [← hx]
    refine ⟨⟨rfl, fun j hj => ⟨w2.heap.size, 0, rfl, fun i hi => ?_⟩⟩, (fun h => by cases h), (by show 1 ≤ _; decide), (by show 1 ≤ _; decide)⟩
    cases i with
    | zero => exact cell_of_block (j := 0) g1 rfl
    | succ i => simp at hi
  refine ⟨UnC.of1 (sl := ⟨some ⟨w2.heap.size + 1, 0, none⟩, 1, 1⟩) h3 (ChQ.of1 g2 hxo ⟨by omega, by omega⟩ (fun b off sp e => by rw [← hx] at e; cases e; exact ⟨Nat.le_refl _, by omega⟩)) ⟨by omega, by omega⟩, b1.trans ((b2.trans (b3.mono b2.size)).mono b1.size), by omega⟩
theorem known5_any (w : World) : Calls Try.prog 16 #[] w fun e w' => e = .returned (.bool true) ∧ Below w.heap.size w w' := by
  obtain ⟨i, hi, hz0, hz1, hz2⟩ := info_parts chInfo
  go_enter Try.func16, Try.ntmps16
  go_wp2_with fail
  refine (new_any 20 _ (by decide) (by decide)).mono ?_
  rintro e w1 ⟨FD, rfl, hd, hb1, hf1⟩
  dsimp only
  have HD := hid hd; have HB1 := hid hb1; have HF1 := hid hf1
  obtain ⟨p, hp⟩ : ∃ p, p = w.heap.size := ⟨_, rfl⟩
  have HP := hid hp
  rw [← hp] at HD ⊢
  clear hd hb1 hf1 hp
  go_wp2_with fail
  refine (storeOpen_any HD.out (Inv.new 20 (by decide) (by decide)) (N := 20) (by simp [DSt.new]) (m := fun _ => none) rfl).mono ?_
  rintro e w2 ⟨ps, pl, b, n, rfl, hst, hb2, hn, hpl, hps, hb⟩
  dsimp only
  have HST := hid hst; have HB2 := hid (HB1.out.trans (hb2.mono HB1.out.size))
  have HLO := hid (show ∀ q ∈ ps :: pl :: FD, w.heap.size ≤ q from fun q hq => by
    have h0 := HB1.out.size
    rcases List.mem_cons.1 hq with h | h
    · omega
    · rcases List.mem_cons.1 h with h | h
      · omega
      · exact HF1.out q h)
  clear hst hb2 hpl hps hb HD HB1 HF1
  have kc := Go.Joins.run_convert_bytes_const_at (P := Try.prog) w2 24 5 #[.int .u8 49] 1 1 w2.heap.size rfl Try.underlying24 Try.underlying5
  go_wp2_with (first | (refine wpList_buildSlice rfl 23 59 1 _ rfl (ChD.mk ⟨#[97]⟩ true (some ⟨w2.heap.size, 0, none⟩) 1 1 [49]).cells.toArray i _ Try.underlying23 hi hz0 (by rw [hz1]; decide) (by rw [hz1]; decide) (by rw [hz1]; kernel_rfl) ?_) | fail)
  clear kc
  have hh := known_made (w2 := w2)
  generalize ((w2.alloc (Obj.cells #[Value.int IntKind.u8 49] 5 (1, 2))).alloc (Obj.cells (ChD.mk ⟨#[97]⟩ true (some ⟨w2.heap.size, 0, none⟩) 1 1 [49]).cells.toArray 59)).alloc (Obj.cells #[Value.slice (some ⟨w2.heap.size + 1, 0, none⟩) 1 1] 23) = w3 at hh ⊢
  obtain ⟨hun, hb3, hs3⟩ := hh
  have HST3 := hid (HST.out.below hb3)
  have HB3 := hid (HB2.out.trans (hb3.mono HB2.out.size))
  have hud : UpD (DSt.new 20) := ⟨rfl, rfl⟩
  have hlow := HST.out.low
  have hcg : ([[ChD.mk ⟨#[97]⟩ true (some ⟨w2.heap.size, 0, none⟩) 1 1 [49]]].map fun l => l.map ChD.cg) = [[kC]] := rfl
  refine (commitS_any HST3.out _ 1 1 _ _ _ hun (fun q hq => ⟨by have := hq.2; omega, fun hm => by have := hlow q hm; have := hq.1; omega⟩) (by decide) (by decide) (by decide) (by omega) (fun k U' m' l hr hl hf => by
    exfalso
    cases k with
    | zero =>
      obtain ⟨rfl, rfl⟩ := hr.nil_inv rfl
      simp only [List.getElem?_cons_zero, Option.some.injEq] at hl
      rw [← hl, show List.map ChD.cg [ChD.mk ⟨#[97]⟩ true (some ⟨w2.heap.size, 0, none⟩) 1 1 [49]] = [kC] from rfl, kC_len] at hf
      omega
    | succ k => simp at hl)).mono ?_
  intro e w4 hout
  have HOUT : Hid (∃ (b' E' A' U' n' : Nat) (AT' : Int) (us' : List (List UInt8)) (s' : DSt) (F' : List Nat), e = .returned (.tuple #[.int .i64 1, .int .i64 0]) ∧ StS w4 p ps pl b' 20 E' A' U' AT' us' s' F' n' (Pm.does (fun _ => none) [kC]) ∧ Chg (ps :: pl :: FD) w3 w4 ∧ Fresh FD F' w3) := by
    obtain ⟨k, ec, U', m', s', F', he, hk, hrun, hc, hf, hwk, hu, hcs⟩ := hout
    obtain ⟨hne, -⟩ := hu hud
    rcases hcs with ⟨b', E', A', AT', us', n', hE', hn', hst', ⟨rfl, hkl⟩ | ⟨l, hl, hstop⟩⟩ | ⟨rfl, -⟩
    · obtain rfl : k = 1 := hkl
      have h1 : StepC 20 0 (fun _ => none) [kC] U' m' := Runs.one_inv hrun
      rw [h1.does] at hst'
      exact ⟨b', E', A', U', n', AT', us', s', F', he, hst', hc, hf⟩
    · exfalso
      cases k with
      | zero =>
        obtain ⟨rfl, rfl⟩ := hrun.nil_inv rfl
        simp only [List.getElem?_cons_zero, Option.some.injEq] at hl
        rw [← hl, show List.map ChD.cg [ChD.mk ⟨#[97]⟩ true (some ⟨w2.heap.size, 0, none⟩) 1 1 [49]] = [kC] from rfl] at hstop
        rcases hstop with ⟨-, -, h⟩ | ⟨-, -, -, h, -⟩
        · rw [kC_ok] at h; cases h
        · rw [kC_len] at h; omega
      | succ k => simp at hl
    · exact absurd rfl hne
  clear hout hun hb3 hs3 hud hcg
  obtain ⟨b4, E4, A4, U4, n4, AT4, us4, s4, F4, rfl, hst4, hc4, hf4⟩ := HOUT.out
  clear HOUT
  dsimp only
  have HST4 := hid hst4
  have HB4 := hid (HB3.out.trans (hc4.below HLO.out HB3.out.size))
  have HLO4 := hid (show ∀ q ∈ F4, w.heap.size ≤ q from fun q hq => by
    rcases hf4 q hq with h | h
    · exact HLO.out q (List.mem_cons_of_mem _ (List.mem_cons_of_mem _ h))
    · exact Nat.le_trans HB3.out.size h)
  clear hst4 hc4 hf4 HST HB2 HST3 HB3 HLO hlow
  go_wp2_with fail
  refine (crash_any p s4 F4 none 0 0 [] _ HST4.out.lg.dk (RdC.nil _ _) (fun z hz => by cases hz) (fun w1 hc => RdC.nil _ _)).mono ?_
  rintro e w5 ⟨rfl, hc5, F5, hd5, hf5⟩
  dsimp only
  have HD5 := hid hd5
  have HB5 := hid (HB4.out.trans (hc5.below HLO4.out HB4.out.size))
  have HI5 := hid (HST4.out.lg.inv.crash [])
  have HL5 := hid ((crash_len4 s4 []).trans HST4.out.lg.sl)
  have HUN5 := hid HST4.out.un
  clear hc5 hd5 hf5 HST4 HB4 HLO4
  go_wp2_with fail
  refine (storeOpen_any HD5.out HI5.out HL5.out HUN5.out).mono ?_
  rintro e w6 ⟨ps6, pl6, b6, n6, rfl, hst6, hb6, hn6, hpl6, hps6, hbb6⟩
  dsimp only
  have HST6 := hid hst6; have HB6 := hid (HB5.out.trans (hb6.mono HB5.out.size))
  clear hst6 hb6 hpl6 hps6 hbb6 HB5 HD5 HI5 HL5 HUN5
  go_wp2_with fail
  refine (get_any ps6 b6 n6 _ _ _ _ ⟨#[97]⟩ _ HST6.out.bx HST6.out.mp (by decide)).mono ?_
  intro e w7 hres
  obtain ⟨hb7, hres⟩ := hres
  have hmk : Pm.does (fun _ => none) [kC] (ByteArray.mk #[97]).data.toList = some [49] := rfl
  rcases hres with ⟨h, -⟩ | ⟨l7, a7, n7, c7, h, rfl, hr7, hs7⟩
  · rw [hmk] at h; cases h
  · rw [hmk] at h
    cases h
    have kc7 := run_bytes_str (P := Try.prog) hr7 c7 24 9 5 Try.underlying24 Try.underlying5 Try.underlying9
    have HB7 := hid (HB6.out.trans (hb7.mono HB6.out.size))
    dsimp only
    clear hr7 hs7 hb7 HB6 HST6 hmk
    go_wp2_with fail
    go_ret
    exact ⟨rfl, HB7.out⟩
end Go.Proofs.Ytipkeifpkemcdaa
