/- Box, Unbox and Right. -/
import Derived.Test.YtbiniecjenencaaVal
set_option linter.unusedVariables false
set_option linter.unusedSimpArgs false
set_option maxRecDepth 10000
namespace Go.Proofs.Ytbiniecjenencaa
open Go.RowKit
/-- A value as Go has it. -/
def boxV (a : V) : Value :=
  if a.k = 1 ∧ a.s.toList = [] ∧ (a.n = 0 ∨ a.n = 1) then .iface 4 (.bool (decide (a.n = 1)))
  else if a.k = 2 ∧ a.s.toList = [] then .iface 3 (.int .i64 a.n)
  else if a.k = 3 ∧ a.n = 0 ∧ a.s.size ≤ 1024 then .iface 9 (.string a.s)
  else .nilIface
set_option maxHeartbeats 1000000 in
theorem box_any (a : V) (w : World) : Calls Try.prog 51 #[a.val] w (fun e w' => e = .returned (boxV a) ∧ Below w.heap.size w w') := by
  obtain ⟨k, n, s⟩ := a
  simp only [V.val]
  go_enter Try.func51, Try.ntmps51
  go_wp2_with (first | (at_make; refine Stop.un ?_) | (at_builtin; refine Stop.un ?_) | (with_reducible refine Stop.conv 22 9 ?_) | (with_reducible refine Stop.conv 9 22 ?_))
  all_goals go_ret
  all_goals refine ⟨congrArg Ending.returned ?_, (Below.refl _ _).alloc (Nat.le_refl _) _⟩
  all_goals simp_all [boxV]
  all_goals omega
end Go.Proofs.Ytbiniecjenencaa
