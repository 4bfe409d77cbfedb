/- utf8.ValidString of two texts. -/
import Derived.Test.YtgenbpndphdgnaaDoorHand
import Derived.WalkKit
import Derived.Deep.LoopGhost
import Derived.Deep.DeepMust
import Derived.Deep.DeepCutAuto
import Derived.Deep.CutBlock
namespace Go.Proofs.YtgenbpndphdgnaaDoor
open Go.RowKit
set_option linter.unusedVariables false
set_option linter.unusedSimpArgs false
set_option maxRecDepth 100000
set_option maxHeartbeats 400000

theorem valid_m (t : ByteArray) (ht : t = ⟨#[]⟩ ∨ t = ⟨#[109]⟩) (w : World) : Calls Tryd.prog 24 #[.string t] w fun e w' => e = .returned (.bool true) ∧ w = w' := by
  go_enter Tryd.func24, Tryd.ntmps24
  go_wp2_with fail
  go_loop [0] (fun y => y = .string ⟨#[]⟩ ∨ y = .string ⟨#[109]⟩) (fun y => match y with | .string t => t.size | _ => 0)
  case atStart =>
    rcases ht with rfl | rfl
    · exact .inl rfl
    · exact .inr rfl
  case round =>
    rcases hrel with rfl | rfl
    · go_wp2_with fail
      go_ret
      exact ⟨rfl, rfl⟩
    · go_upto_region 4 with (fail)
      go_upto_region 5 with (fail)
      go_wp2_with fail
      exact ⟨.inl rfl, show 0 < 1 by decide⟩
end Go.Proofs.YtgenbpndphdgnaaDoor
