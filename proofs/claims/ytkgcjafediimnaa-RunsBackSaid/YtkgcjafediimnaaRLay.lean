/- The head of all statements of layer 9, few and some. -/
import Derived.Test.YtkgcjafediimnaaRPut
import Derived.Test.YtkgcjafediimnaaRAt
import Derived.Test.YtkgcjafediimnaaRSame
set_option linter.unusedVariables false
set_option linter.unusedSimpArgs false
namespace Go.Proofs.Ytkgcjafediimnaa
open Go.RowKit
theorem L557 : ∀ n ∈ ([5, 5, 7] : List Int), -9223372036854775808 ≤ n ∧ n ≤ 9223372036854775807 := by decide
set_option maxHeartbeats 2000000 in
theorem shown_any (w : World) : Calls Try.prog 11 #[] w (fun e w' => e = .returned (.bool true) ∧ Below w.heap.size w w') := by
  have hst := strOf_toList'
  go_enter Try.func11, Try.ntmps11
  go_wp2_with (first | (at_make; refine Stop.un ?_) | (at_builtin; refine Stop.un ?_) | (with_reducible refine Stop.conv 24 9 ?_) | (with_reducible refine Stop.conv 9 24 ?_))
  have o0 : Own w (w.alloc (.cells #[.int .i64 5, .int .i64 5, .int .i64 7] 3)) 3 1 (.slice (some ⟨w.heap.size, 0, none⟩) 3 3) 3 (icells [5, 5, 7]) := Own.block (Below.refl _ _) rfl (by decide)
  refine (of_any _ 3 3 [5, 5, 7] _ (Own.cs o0) rfl (by decide) (by decide) (by decide)).mono ?_
  rw [show ofR [5, 5, 7] = [⟨5, 2⟩, ⟨7, 1⟩] from by decide +kernel]
  rintro e w1 ⟨a1, n1, c1, h1, rfl, o1⟩
  have hh : n1 = 2 := h1.symm
  subst hh
  have b1 := (Own.below o0).next (Own.below o1)
  have cs1 := Own.cs o1
  have le1 := owns_le o1.1
  have mx1 := owns_max o1.1
  clear h1 o0 o1
  go_wp2_with (first | (at_make; refine Stop.un ?_) | (at_builtin; refine Stop.un ?_) | (with_reducible refine Stop.conv 24 9 ?_) | (with_reducible refine Stop.conv 9 24 ?_))
  have o2 : Own w1 (w1.alloc (.cells #[.int .i64 5, .int .i64 5, .int .i64 7] 3)) 3 1 (.slice (some ⟨w1.heap.size, 0, none⟩) 3 3) 3 (icells [5, 5, 7]) := Own.block (Below.refl _ _) rfl (by decide)
  replace cs1 := cs1.mono (Own.below o2) (Nat.le_refl _)
  refine (put_any _ 3 3 [5, 5, 7] _ (Own.cs o2) rfl (by decide) (by decide) (by decide) L557).mono ?_
  rw [show putR [5, 5, 7] = [2, 10, 2, 14, 1] from by decide +kernel, show putC [5, 5, 7] = 0 from by decide +kernel]
  rintro e w2 ⟨a2, n2, c2, h2, rfl, o3⟩
  replace b1 := (b1.next (Own.below o2)).next (Own.below o3)
  replace cs1 := cs1.mono (Own.below o3) (Nat.le_refl _)
  have H2 := Lib.hid h2
  have cs2 := Own.cs o3
  clear h2 o2 o3
  go_wp2_with (first | (at_make; refine Stop.un ?_) | (at_builtin; refine Stop.un ?_) | (with_reducible refine Stop.conv 24 9 ?_) | (with_reducible refine Stop.conv 9 24 ?_))
  refine (at_any a1 2 c1 [⟨5, 2⟩, ⟨7, 1⟩] 1 _ cs1 rfl le1 mx1 (by decide)).mono ?_
  rw [show atN [⟨5, 2⟩, ⟨7, 1⟩] 1 = 5 from by decide +kernel, show atI [⟨5, 2⟩, ⟨7, 1⟩] 1 = 0 from by decide +kernel, show atOk [⟨5, 2⟩, ⟨7, 1⟩] 1 = true from by decide +kernel]
  rintro e w3 ⟨rfl, b3⟩
  replace b1 := b1.next b3
  replace cs1 := cs1.mono b3 (Nat.le_refl _)
  replace cs2 := cs2.mono b3 (Nat.le_refl _)
  clear b3
  go_wp2_with (first | (at_make; refine Stop.un ?_) | (at_builtin; refine Stop.un ?_) | (with_reducible refine Stop.conv 24 9 ?_) | (with_reducible refine Stop.conv 9 24 ?_))
  have o4 : OwnR w3 (w3.alloc (.cells #[.int .i64 5, .int .i64 2, .int .i64 7, .int .i64 1] 34)) (.slice (some ⟨w3.heap.size, 0, none⟩) 2 2) 2 [⟨5, 2⟩, ⟨7, 1⟩] := Own.block (Below.refl _ _) rfl (by decide)
  replace cs1 := cs1.mono (Own.below o4) (Nat.le_refl _)
  replace cs2 := cs2.mono (Own.below o4) (Nat.le_refl _)
  refine (same_any a1 _ 2 2 c1 2 [⟨5, 2⟩, ⟨7, 1⟩] [⟨5, 2⟩, ⟨7, 1⟩] _ cs1 (Own.cs o4) rfl rfl le1 mx1 (by decide) (by decide)).mono ?_
  rw [show decide (([⟨5, 2⟩, ⟨7, 1⟩] : List Rn) = [⟨5, 2⟩, ⟨7, 1⟩]) = true from by decide +kernel]
  rintro e w4 ⟨rfl, b4⟩
  replace b1 := (b1.next (Own.below o4)).next b4
  replace cs2 := cs2.mono b4 (Nat.le_refl _)
  clear o4 b4 cs1
  go_wp2_with (first | (at_make; refine Stop.un ?_) | (at_builtin; refine Stop.un ?_) | (with_reducible refine Stop.conv 24 9 ?_) | (with_reducible refine Stop.conv 9 24 ?_))
  refine Stop.mk (wpList_conv Try.underlying24 Try.underlying5 Try.underlying9 _ rfl rfl rfl H2.out cs2 ?_)
  clear cs2 H2
  go_wp2
  go_ret
  exact ⟨rfl, b1⟩
set_option maxHeartbeats 400000 in
theorem few_any (ao : Option Addr) (n cap : Nat) (w : World) (hn : n ≤ cap) (hm : cap ≤ maxLen) : Calls Try.prog 8 #[.slice ao n cap] w (fun e w' => e = .returned (.slice ao (min n 5000) cap) ∧ w = w') := by
  unfold maxLen at hm
  go_enter Try.func8, Try.ntmps8
  go_wp2
  go_ret
  exact ⟨congrArg (fun k => Ending.returned (.slice ao k cap)) (show (min (n : Int) 5000).toNat = min n 5000 by omega), rfl⟩
set_option maxHeartbeats 400000 in
theorem some_any (ao : Option Addr) (n cap : Nat) (w : World) (hn : n ≤ cap) (hm : cap ≤ maxLen) : Calls Try.prog 16 #[.slice ao n cap] w (fun e w' => e = .returned (.slice ao (min n 500) cap) ∧ w = w') := by
  unfold maxLen at hm
  go_enter Try.func16, Try.ntmps16
  go_wp2
  go_ret
  exact ⟨congrArg (fun k => Ending.returned (.slice ao k cap)) (show (min (n : Int) 500).toNat = min n 500 by omega), rfl⟩
end Go.Proofs.Ytkgcjafediimnaa
