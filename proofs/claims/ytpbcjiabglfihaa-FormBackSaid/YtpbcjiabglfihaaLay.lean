/- The head of all statements of the first layer, few, and FormLays. -/
import Derived.Test.YtpbcjiabglfihaaRef
set_option linter.unusedVariables false
namespace Go.Proofs.Ytpbcjiabglfihaa
open Go.RowKit
set_option maxHeartbeats 1000000 in
theorem shown_any (w : World) : Calls Try.prog 9 #[] w (fun e w' => e = .returned (.bool true) ∧ Below w.heap.size w w') := by
  have hst := strOf_toList'
  have b0 := Below.refl w.heap.size w
  go_enter Try.func9, Try.ntmps9
  go_wp2_with (first | (at_make; refine Stop.un ?_) | (at_builtin; refine Stop.un ?_) | (with_reducible refine Stop.conv 22 9 ?_) | (with_reducible refine Stop.conv 9 22 ?_))
  refine (num_any none 0 0 [] 5 _ (Cs.nil _ _) rfl (by decide) (by decide) (by decide)).mono ?_
  rintro e w1 ⟨ao1, n1, cap1, h1, rfl, o1⟩
  have H1 := Lib.hid h1; clear h1
  go_wp2_with (first | (at_make; refine Stop.un ?_) | (at_builtin; refine Stop.un ?_) | (with_reducible refine Stop.conv 22 9 ?_) | (with_reducible refine Stop.conv 9 22 ?_))
  refine Stop.mk (wpList_conv Try.underlying22 Try.underlying5 Try.underlying9 _ rfl rfl rfl H1.out (Own.cs o1) ?_)
  rw [show ([] ++ numB (Int.toNat 5)) = [5] from by decide]
  have b1 := Own.below o1
  clear o1 H1 b0
  go_wp2_with (first | (at_make; refine Stop.un ?_) | (at_builtin; refine Stop.un ?_) | (with_reducible refine Stop.conv 22 9 ?_) | (with_reducible refine Stop.conv 9 22 ?_))
  refine (num_any none 0 0 [] 247 _ (Cs.nil _ _) rfl (by decide) (by decide) (by decide)).mono ?_
  rintro e w2 ⟨ao2, n2, cap2, h2, rfl, o2⟩
  have H2 := Lib.hid h2; clear h2
  go_wp2_with (first | (at_make; refine Stop.un ?_) | (at_builtin; refine Stop.un ?_) | (with_reducible refine Stop.conv 22 9 ?_) | (with_reducible refine Stop.conv 9 22 ?_))
  refine Stop.mk (wpList_conv Try.underlying22 Try.underlying5 Try.underlying9 _ rfl rfl rfl H2.out (Own.cs o2) ?_)
  rw [show ([] ++ numB (Int.toNat 247)) = [247] from by decide]
  have b2 := b1.next (Own.below o2)
  clear o2 H2 b1
  go_wp2_with (first | (at_make; refine Stop.un ?_) | (at_builtin; refine Stop.un ?_) | (with_reducible refine Stop.conv 22 9 ?_) | (with_reducible refine Stop.conv 9 22 ?_))
  refine (num_any none 0 0 [] 248 _ (Cs.nil _ _) rfl (by decide) (by decide) (by decide)).mono ?_
  rintro e w3 ⟨ao3, n3, cap3, h3, rfl, o3⟩
  have H3 := Lib.hid h3; clear h3
  go_wp2_with (first | (at_make; refine Stop.un ?_) | (at_builtin; refine Stop.un ?_) | (with_reducible refine Stop.conv 22 9 ?_) | (with_reducible refine Stop.conv 9 22 ?_))
  refine Stop.mk (wpList_conv Try.underlying22 Try.underlying5 Try.underlying9 _ rfl rfl rfl H3.out (Own.cs o3) ?_)
  rw [show ([] ++ numB (Int.toNat 248)) = [248, 248] from by decide]
  have b3 := b2.next (Own.below o3)
  clear o3 H3 b2
  go_wp2_with (first | (at_make; refine Stop.un ?_) | (at_builtin; refine Stop.un ?_) | (with_reducible refine Stop.conv 22 9 ?_) | (with_reducible refine Stop.conv 9 22 ?_))
  refine (num_any none 0 0 [] 256 _ (Cs.nil _ _) rfl (by decide) (by decide) (by decide)).mono ?_
  rintro e w4 ⟨ao4, n4, cap4, h4, rfl, o4⟩
  have H4 := Lib.hid h4; clear h4
  go_wp2_with (first | (at_make; refine Stop.un ?_) | (at_builtin; refine Stop.un ?_) | (with_reducible refine Stop.conv 22 9 ?_) | (with_reducible refine Stop.conv 9 22 ?_))
  refine Stop.mk (wpList_conv Try.underlying22 Try.underlying5 Try.underlying9 _ rfl rfl rfl H4.out (Own.cs o4) ?_)
  rw [show ([] ++ numB (Int.toNat 256)) = [249, 1, 0] from by decide]
  have b4 := b3.next (Own.below o4)
  clear o4 H4 b3
  go_wp2_with (first | (at_make; refine Stop.un ?_) | (at_builtin; refine Stop.un ?_) | (with_reducible refine Stop.conv 22 9 ?_) | (with_reducible refine Stop.conv 9 22 ?_))
  refine (int_any none 0 0 [] (-1) _ (Cs.nil _ _) rfl (by decide) (by decide) (by decide)).mono ?_
  rintro e w5 ⟨ao5, n5, cap5, h5, rfl, o5⟩
  have H5 := Lib.hid h5; clear h5
  go_wp2_with (first | (at_make; refine Stop.un ?_) | (at_builtin; refine Stop.un ?_) | (with_reducible refine Stop.conv 22 9 ?_) | (with_reducible refine Stop.conv 9 22 ?_))
  refine Stop.mk (wpList_conv Try.underlying22 Try.underlying5 Try.underlying9 _ rfl rfl rfl H5.out (Own.cs o5) ?_)
  rw [show ([] ++ intB (-1)) = [1] from by decide]
  have b5 := b4.next (Own.below o5)
  clear o5 H5 b4
  go_wp2_with (first | (at_make; refine Stop.un ?_) | (at_builtin; refine Stop.un ?_) | (with_reducible refine Stop.conv 22 9 ?_) | (with_reducible refine Stop.conv 9 22 ?_))
  refine (int_any none 0 0 [] 1 _ (Cs.nil _ _) rfl (by decide) (by decide) (by decide)).mono ?_
  rintro e w6 ⟨ao6, n6, cap6, h6, rfl, o6⟩
  have H6 := Lib.hid h6; clear h6
  go_wp2_with (first | (at_make; refine Stop.un ?_) | (at_builtin; refine Stop.un ?_) | (with_reducible refine Stop.conv 22 9 ?_) | (with_reducible refine Stop.conv 9 22 ?_))
  refine Stop.mk (wpList_conv Try.underlying22 Try.underlying5 Try.underlying9 _ rfl rfl rfl H6.out (Own.cs o6) ?_)
  rw [show ([] ++ intB 1) = [2] from by decide]
  have b6 := b5.next (Own.below o6)
  clear o6 H6 b5
  go_wp2_with (first | (at_make; refine Stop.un ?_) | (at_builtin; refine Stop.un ?_) | (with_reducible refine Stop.conv 22 9 ?_) | (with_reducible refine Stop.conv 9 22 ?_))
  refine (text_any none 0 0 [] ⟨#[97, 98]⟩ _ (Cs.nil _ _) rfl (by decide)).mono ?_
  rintro e w7 ⟨ao7, n7, cap7, h7, rfl, o7⟩
  have H7 := Lib.hid h7; clear h7
  go_wp2_with (first | (at_make; refine Stop.un ?_) | (at_builtin; refine Stop.un ?_) | (with_reducible refine Stop.conv 22 9 ?_) | (with_reducible refine Stop.conv 9 22 ?_))
  refine Stop.mk (wpList_conv Try.underlying22 Try.underlying5 Try.underlying9 _ rfl rfl rfl H7.out (Own.cs o7) ?_)
  rw [show ([] ++ textB (⟨#[97, 98]⟩ : ByteArray).data.toList) = [2, 97, 98] from by decide]
  have b7 := b6.next (Own.below o7)
  clear o7 H7 b6
  go_wp2
  go_ret
  exact ⟨rfl, b7⟩

set_option maxHeartbeats 400000 in
theorem few_any (ao : Option Addr) (n cap : Nat) (w : World) (hn : n ≤ cap) (hm : cap ≤ maxLen) : Calls Try.prog 10 #[.slice ao n cap] w (fun e w' => e = .returned (.slice ao (min n 3000) cap) ∧ w = w') := by
  unfold maxLen at hm
  go_enter Try.func10, Try.ntmps10
  go_wp2
  go_ret
  exact ⟨congrArg (fun k => Ending.returned (.slice ao k cap)) (show (min (n : Int) 3000).toNat = min n 3000 by omega), rfl⟩
end Go.Proofs.Ytpbcjiabglfihaa
