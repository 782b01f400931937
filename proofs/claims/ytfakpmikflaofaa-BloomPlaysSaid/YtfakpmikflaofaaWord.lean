/- What Word returns of a text. -/
import Derived.Test.YtfakpmikflaofaaUnbox
import Derived.Tactics
import Derived.Tactics2
set_option linter.unusedVariables false
set_option linter.unusedSimpArgs false
namespace Go.Proofs.Ytfakpmikflaofaa
open Go.RowKit
set_option maxHeartbeats 1000000 in
theorem word_y (s : ByteArray) (w : World) : Calls Try.prog 27 #[.iface 9 (.string s)] w (fun e w' => e = .returned (.string s) ∧ w = w') := by
  have ha : ∀ W : World, (Instr.typeAssert (.iface 9 (.string s)) 20 9 false).run Try.prog W = .ok (.string s) W := fun W => by kernel_rfl
  go_enter Try.func27, Try.ntmps27
  go_wp2_with (first | (at_make; refine Stop.un ?_) | (at_builtin; refine Stop.un ?_) | (with_reducible refine Stop.conv 32 9 ?_) | (with_reducible refine Stop.conv 9 32 ?_))
  go_ret
  exact ⟨rfl, rfl⟩
end Go.Proofs.Ytfakpmikflaofaa
