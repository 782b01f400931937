/- What Word returns of a text. -/
import Derived.Test.YtdpmaocbfmgmlaaUnbox
import Derived.Tactics
import Derived.Tactics2
set_option linter.unusedVariables false
set_option linter.unusedSimpArgs false
namespace Go.Proofs.Ytdpmaocbfmgmlaa
open Go.RowKit
set_option maxHeartbeats 1000000 in
theorem word_y (s : ByteArray) (w : World) : Calls Try.prog 70 #[.iface 9 (.string s)] w (fun e w' => e = .returned (.string s) ∧ w = w') := by
  have ha : ∀ W : World, (Instr.typeAssert (.iface 9 (.string s)) 20 9 false).run Try.prog W = .ok (.string s) W := fun W => by kernel_rfl
  go_enter Try.func70, Try.ntmps70
  go_wp2_with (first | (at_make; refine Stop.un ?_) | (at_builtin; refine Stop.un ?_) | (with_reducible refine Stop.conv 40 9 ?_) | (with_reducible refine Stop.conv 9 40 ?_))
  go_ret
  exact ⟨rfl, rfl⟩
end Go.Proofs.Ytdpmaocbfmgmlaa
