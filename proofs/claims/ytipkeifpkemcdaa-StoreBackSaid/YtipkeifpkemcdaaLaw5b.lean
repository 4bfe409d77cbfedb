/- StoreBack's walk. -/
import Derived.Test.YtipkeifpkemcdaaSt5k
import Derived.Test.YtipkeifpkemcdaaSt5s
namespace Go.Proofs.Ytipkeifpkemcdaa
open Go.RowKit
set_option linter.unusedVariables false
set_option linter.unusedSimpArgs false
set_option maxRecDepth 1000000
set_option maxHeartbeats 6400000
/-- What StoreBack's second half goes on with. -/
theorem storeBack_walk (a1 : Option Addr) (n1 c1 : Nat) (l1 : List RawD) (aB : Option Addr) (nB cB : Nat) (lB : List UInt8) (w : World) (hr : RwA w a1 n1 l1) (hb : RdB w aB nB lB) (hno : aB = none → cB = 0) (hn : nB ≤ 140737488355328) :
    Calls Try.prog 4 #[.slice a1 n1 c1, .slice aB nB cB] w fun e w' => e = .returned (.bool true) ∧ Below w.heap.size w w' := by
  have HB := hid hb; have HNO := hid hno; have HR := hid hr
  clear hb hno hr
  go_enter Try.func4, Try.ntmps4
  go_wp2_with fail
  refine (list5_any a1 n1 c1 l1 20 _ HR.out (by decide)).mono ?_
  intro e w1 hres
  obtain ⟨a2, n2, c2, xs, rfl, hn2, hq, hb1⟩ := hres
  have HQ := hid hq; have HB1 := hid hb1
  clear hq hb1
  dsimp only
  go_wp2_with fail
  refine (lay5_any a2 n2 c2 xs _ HQ.out.ch).mono ?_
  intro e w2 hres
  obtain ⟨hb2, hres⟩ := hres
  have HB2 := hid (HB1.out.trans (hb2.mono HB1.out.size))
  have HQ2 := hid (HQ.out.below hb2)
  have hres2 : ∃ (a3 : Option Addr) (n3 c3 : Nat) (ec : Int), e = .returned (.tuple #[.slice a3 n3 c3, .int .i64 ec]) ∧ (ec = 0 → okCs (xs.map ChD.cg) = true ∧ w2.ownsRow w1.heap.size 5 1 (.slice a3 n3 c3) n3 ((layCs (xs.map ChD.cg)).map B8)) := by
    rcases hres with ⟨hok, a, n, c, he, ho⟩ | ⟨hok, he⟩
    · exact ⟨a, n, c, 0, he, fun _ => ⟨hok, ho⟩⟩
    · exact ⟨none, 0, 0, 1, he, fun h => by cases h⟩
  obtain ⟨a3, n3, c3, ec, rfl, hec⟩ := hres2
  have HEC := hid hec
  clear hb2 HQ hres hec
  dsimp only
  go_upto_if 22 with (fail)
  generalize hb6 : (ec == 0) = b6
  have HB6 := hid hb6
  clear hb6
  go_cut [] (fun wx => Below w.heap.size w wx)
  case first =>
    cases b6 with
    | false =>
      go_wp2_with fail
      go_meet
      exact HB2.out
    | true =>
      obtain ⟨hok, ho⟩ := HEC.out (by have := HB6.out; simpa using this)
      have HOK := hid hok; have HO := hid ho
      have hlen := layCs_len hok
      have hl3 := (RdB.of_own ho).len
      clear hok ho
      go_wp2_with fail
      refine (read5_any a3 n3 c3 _ _ (RdB.of_own HO.out) (own_slice HO.out).2.1 (by omega)).mono ?_
      intro e w3 hres
      obtain ⟨hb3, hres⟩ := hres
      rcases hres with ⟨a4, n4, c4, ys, rfl, hrc, hq4⟩ | ⟨hno4, rfl⟩
      · have hxy : xs.map ChD.cg = ys.map ChD.cg := by
          rw [readCs_lay HOK.out] at hrc
          exact Option.some.inj hrc
        have HXY := hid hxy; have HQ4 := hid hq4
        have HB3 := hid (HB2.out.trans (hb3.mono HB2.out.size))
        have HQ3 := hid (HQ2.out.below hb3)
        clear hxy hq4 hrc hb3
        dsimp only
        go_wp2_with fail
        refine (same5_any a2 a4 n2 c2 n4 c4 xs ys _ HQ3.out.ch HQ4.out.ch HXY.out).mono ?_
        rintro e w4 ⟨rfl, hb4⟩
        dsimp only
        have HB4 := hid (HB3.out.trans (hb4.mono HB3.out.size))
        clear hb4
        go_wp2_with fail
        go_meet
        exact HB4.out
      · rw [readCs_lay HOK.out] at hno4; cases hno4
  have HBX := hid hcut
  clear hcut HB2 HQ2 HEC HB6 HB1
  go_wp2_with fail
  refine (read5_any aB nB cB lB _ (HB.out.below HBX.out) HNO.out hn).mono ?_
  intro e w5 hres
  obtain ⟨hb5, hres⟩ := hres
  have HB5 := hid (HBX.out.trans (hb5.mono HBX.out.size))
  clear hb5 HBX
  rcases hres with ⟨a4, n4, c4, ys, rfl, hrc, hq4⟩ | ⟨hno4, rfl⟩
  · obtain ⟨hok, hlay⟩ := readCs_some hrc
    have HOK := hid hok; have HLAY := hid hlay; have HQ4 := hid hq4
    clear hok hlay hrc hq4
    dsimp only
    go_wp2_with fail
    refine (known5_any _).mono ?_
    rintro e w6 ⟨rfl, hb6⟩
    dsimp only
    have HB6 := hid (HB5.out.trans (hb6.mono HB5.out.size))
    have HQ6 := hid (HQ4.out.below hb6)
    clear hb6
    go_wp2_with fail
    refine (lay5_any a4 n4 c4 ys _ HQ6.out.ch).mono ?_
    intro e w7 hres
    obtain ⟨hb7, hres⟩ := hres
    have HB7 := hid (HB6.out.trans (hb7.mono HB6.out.size))
    clear hb7
    rcases hres with ⟨hok, a, n, c, rfl, ho⟩ | ⟨hok, rfl⟩
    · have kc1 := run_bytes_str (P := Try.prog) (RdB.of_own ho) c 24 9 5 Try.underlying24 Try.underlying5 Try.underlying9
      have kc2 := run_bytes_str (P := Try.prog) (HB.out.below HB7.out) cB 24 9 5 Try.underlying24 Try.underlying5 Try.underlying9
      rw [HLAY.out] at kc1
      clear hok ho
      dsimp only
      go_wp2_with fail
      go_ret
      exact ⟨rfl, HB7.out⟩
    · rw [HOK.out] at hok; cases hok
  · clear hno4
    dsimp only
    go_wp2_with fail
    refine (known5_any _).mono ?_
    rintro e w6 ⟨rfl, hb6⟩
    dsimp only
    have HB6 := hid (HB5.out.trans (hb6.mono HB5.out.size))
    clear hb6
    go_wp2_with fail
    refine (known5_any _).mono ?_
    rintro e w7 ⟨rfl, hb7⟩
    dsimp only
    have HB7 := hid (HB6.out.trans (hb7.mono HB6.out.size))
    clear hb7
    go_wp2_with fail
    go_ret
    exact ⟨rfl, HB7.out⟩
end Go.Proofs.Ytipkeifpkemcdaa
