/- The head of all statements of layer 11, and few. -/
import Derived.Test.YtmnpneehlnmfmaaDPut
set_option linter.unusedVariables false
namespace Go.Proofs.Ytmnpneehlnmfmaa
open Go.RowKit
set_option maxHeartbeats 1000000 in
theorem shown_any (w : World) : Calls Try.prog 9 #[] w (fun e w' => e = .returned (.bool true) ∧ Below w.heap.size w w') := by
  have hst := strOf_toList'
  go_enter Try.func9, Try.ntmps9
  go_wp2_with (first | (at_make; refine Stop.un ?_) | (at_builtin; refine Stop.un ?_) | (with_reducible refine Stop.conv 28 9 ?_) | (with_reducible refine Stop.conv 9 28 ?_))
  have o0 : Own w (w.alloc (.cells #[.int .i64 5, .int .i64 7, .int .i64 6] 3)) 3 1 (.slice (some ⟨w.heap.size, 0, none⟩) 3 3) 3 ([5, 7, 6].map (Value.int .i64)) := Own.block (Below.refl _ _) rfl (by decide)
  refine (put_any _ 3 3 [5, 7, 6] _ (Own.cs o0) rfl (by decide) (by decide) (by decide)).mono ?_
  rw [show putR [5, 7, 6] = [3, 10, 4, 1] from by decide +kernel, show putC [5, 7, 6] = 0 from by decide +kernel]
  rintro e w1 ⟨a1, n1, c1, h1, rfl, o1⟩
  have b1 := (Own.below o0).next (Own.below o1)
  have H1 := Lib.hid h1
  clear h1 o0
  go_wp2_with (first | (at_make; refine Stop.un ?_) | (at_builtin; refine Stop.un ?_) | (with_reducible refine Stop.conv 28 9 ?_) | (with_reducible refine Stop.conv 9 28 ?_))
  refine (step_any (-9223372036854775808) 1 _ (by decide) (by decide) (by decide) (by decide)).mono ?_
  rw [show stN (-9223372036854775808) 1 = 0 from by decide, show stE (-9223372036854775808) 1 = 8 from by decide]
  rintro e w2 ⟨rfl, rfl⟩
  go_wp2_with (first | (at_make; refine Stop.un ?_) | (at_builtin; refine Stop.un ?_) | (with_reducible refine Stop.conv 28 9 ?_) | (with_reducible refine Stop.conv 9 28 ?_))
  refine Stop.mk (wpList_conv Try.underlying28 Try.underlying5 Try.underlying9 _ rfl rfl rfl H1.out (Own.cs o1) ?_)
  clear o1 H1
  go_wp2
  go_ret
  exact ⟨rfl, b1⟩

set_option maxHeartbeats 400000 in
theorem few_any (ao : Option Addr) (n cap : Nat) (w : World) (hn : n ≤ cap) (hm : cap ≤ maxLen) : Calls Try.prog 13 #[.slice ao n cap] w (fun e w' => e = .returned (.slice ao (min n 5000) cap) ∧ w = w') := by
  unfold maxLen at hm
  go_enter Try.func13, Try.ntmps13
  go_wp2
  go_ret
  exact ⟨congrArg (fun k => Ending.returned (.slice ao k cap)) (show (min (n : Int) 5000).toNat = min n 5000 by omega), rfl⟩
end Go.Proofs.Ytmnpneehlnmfmaa
