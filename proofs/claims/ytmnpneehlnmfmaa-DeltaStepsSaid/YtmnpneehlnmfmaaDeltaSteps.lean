/- DeltaSteps. -/
import Derived.Test.YtmnpneehlnmfmaaDLay
set_option linter.unusedVariables false
namespace Go.Proofs.Ytmnpneehlnmfmaa
open Go.RowKit
theorem stN_true {a b : Int} (h : -9223372036854775808 ≤ b - a ∧ b - a ≤ 9223372036854775807) : stN a b = b - a := by unfold stN stp; rw [if_pos (decide_eq_true h)]
theorem stE_true {a b : Int} (h : -9223372036854775808 ≤ b - a ∧ b - a ≤ 9223372036854775807) : stE a b = 0 := by unfold stE stp; rw [if_pos (decide_eq_true h)]
theorem stN_false {a b : Int} (h : ¬ (-9223372036854775808 ≤ b - a ∧ b - a ≤ 9223372036854775807)) : stN a b = 0 := by unfold stN stp; rw [decide_eq_false h]; rfl
theorem stE_false {a b : Int} (h : ¬ (-9223372036854775808 ≤ b - a ∧ b - a ≤ 9223372036854775807)) : stE a b = 8 := by unfold stE stp; rw [decide_eq_false h]; rfl

set_option maxRecDepth 100000 in
set_option maxHeartbeats 1000000 in
theorem deltaSteps_any (a b : Int) (w : World) (ha0 : -9223372036854775808 ≤ a) (ha1 : a ≤ 9223372036854775807) (hb0 : -9223372036854775808 ≤ b) (hb1 : b ≤ 9223372036854775807) :
    Calls Try.prog 3 #[.int .i64 a, .int .i64 b] w (fun e w' => e = .returned (.bool true) ∧ Below w.heap.size w w') := by
  by_cases ho : -9223372036854775808 ≤ b - a ∧ b - a ≤ 9223372036854775807
  · have hN := stN_true ho
    have hE := stE_true ho
    obtain ⟨ho1, ho2⟩ := ho
    have t1 : (a + (b - a) == b) = true := by rw [beq_iff_eq]; omega
    have t2 : (decide (b - a < 0) == decide (b < a)) = true := by
      by_cases h : b < a
      · rw [decide_eq_true (show b - a < 0 by omega), decide_eq_true h]; rfl
      · rw [decide_eq_false (show ¬ b - a < 0 by omega), decide_eq_false h]; rfl
    by_cases hp : -9223372036854775808 ≤ a - b ∧ a - b ≤ 9223372036854775807
    · have hM := stN_true hp
      have hF := stE_true hp
      obtain ⟨hp1, hp2⟩ := hp
      have t3 : (a - b == -(b - a)) = true := by rw [beq_iff_eq]; omega
      have HH := Lib.hid (And.intro (And.intro hN hE) (And.intro hM hF))
      clear hN hE hM hF
      go_enter Try.func3, Try.ntmps3
      go_wp2_with (first | (at_make; refine Stop.un ?_) | (at_builtin; refine Stop.un ?_) | (with_reducible refine Stop.conv 28 9 ?_) | (with_reducible refine Stop.conv 9 28 ?_))
      refine (shown_any _).mono ?_
      rintro e w1 ⟨rfl, b1⟩
      go_wp2_with (first | (at_make; refine Stop.un ?_) | (at_builtin; refine Stop.un ?_) | (with_reducible refine Stop.conv 28 9 ?_) | (with_reducible refine Stop.conv 9 28 ?_))
      refine (step_any a b _ ha0 ha1 hb0 hb1).mono ?_
      rw [HH.out.1.1, HH.out.1.2]
      rintro e w2 ⟨rfl, rfl⟩
      go_wp2_with (first | (at_make; refine Stop.un ?_) | (at_builtin; refine Stop.un ?_) | (with_reducible refine Stop.conv 28 9 ?_) | (with_reducible refine Stop.conv 9 28 ?_))
      refine (step_any b a _ hb0 hb1 ha0 ha1).mono ?_
      rw [HH.out.2.1, HH.out.2.2]
      rintro e w2 ⟨rfl, rfl⟩
      go_wp2_with (first | (at_make; refine Stop.un ?_) | (at_builtin; refine Stop.un ?_) | (with_reducible refine Stop.conv 28 9 ?_) | (with_reducible refine Stop.conv 9 28 ?_))
      go_ret
      exact ⟨rfl, b1⟩
    · have hM := stN_false hp
      have hF := stE_false hp
      have t3 : (b - a == -9223372036854775808) = true := by rw [beq_iff_eq]; omega
      have HH := Lib.hid (And.intro (And.intro hN hE) (And.intro hM hF))
      clear hN hE hM hF hp
      go_enter Try.func3, Try.ntmps3
      go_wp2_with (first | (at_make; refine Stop.un ?_) | (at_builtin; refine Stop.un ?_) | (with_reducible refine Stop.conv 28 9 ?_) | (with_reducible refine Stop.conv 9 28 ?_))
      refine (shown_any _).mono ?_
      rintro e w1 ⟨rfl, b1⟩
      go_wp2_with (first | (at_make; refine Stop.un ?_) | (at_builtin; refine Stop.un ?_) | (with_reducible refine Stop.conv 28 9 ?_) | (with_reducible refine Stop.conv 9 28 ?_))
      refine (step_any a b _ ha0 ha1 hb0 hb1).mono ?_
      rw [HH.out.1.1, HH.out.1.2]
      rintro e w2 ⟨rfl, rfl⟩
      go_wp2_with (first | (at_make; refine Stop.un ?_) | (at_builtin; refine Stop.un ?_) | (with_reducible refine Stop.conv 28 9 ?_) | (with_reducible refine Stop.conv 9 28 ?_))
      refine (step_any b a _ hb0 hb1 ha0 ha1).mono ?_
      rw [HH.out.2.1, HH.out.2.2]
      rintro e w2 ⟨rfl, rfl⟩
      go_wp2_with (first | (at_make; refine Stop.un ?_) | (at_builtin; refine Stop.un ?_) | (with_reducible refine Stop.conv 28 9 ?_) | (with_reducible refine Stop.conv 9 28 ?_))
      go_ret
      exact ⟨rfl, b1⟩
  · have hN := stN_false ho
    have hE := stE_false ho
    have t1 : (!decide (a < 0) == decide (b < 0)) = true := by
      by_cases h : b < 0
      · rw [decide_eq_false (show ¬ a < 0 by omega), decide_eq_true h]; rfl
      · rw [decide_eq_true (show a < 0 by omega), decide_eq_false h]; rfl
    have t2 : (a != b) = true := by rw [bne_iff_ne]; omega
    have T2 := Lib.hid t2
    clear t2
    have HH := Lib.hid (And.intro hN hE)
    clear hN hE ho
    go_enter Try.func3, Try.ntmps3
    go_wp2_with (first | (at_make; refine Stop.un ?_) | (at_builtin; refine Stop.un ?_) | (with_reducible refine Stop.conv 28 9 ?_) | (with_reducible refine Stop.conv 9 28 ?_))
    refine (shown_any _).mono ?_
    rintro e w1 ⟨rfl, b1⟩
    go_wp2_with (first | (at_make; refine Stop.un ?_) | (at_builtin; refine Stop.un ?_) | (with_reducible refine Stop.conv 28 9 ?_) | (with_reducible refine Stop.conv 9 28 ?_))
    refine (step_any a b _ ha0 ha1 hb0 hb1).mono ?_
    rw [HH.out.1, HH.out.2]
    rintro e w2 ⟨rfl, rfl⟩
    go_wp2_with (first | (at_make; refine Stop.un ?_) | (at_builtin; refine Stop.un ?_) | (with_reducible refine Stop.conv 28 9 ?_) | (with_reducible refine Stop.conv 9 28 ?_))
    refine (step_any b a _ hb0 hb1 ha0 ha1).mono ?_
    rintro e w2 ⟨rfl, rfl⟩
    go_wp2_with (first | (at_make; refine Stop.un ?_) | (at_builtin; refine Stop.un ?_) | (with_reducible refine Stop.conv 28 9 ?_) | (with_reducible refine Stop.conv 9 28 ?_))
    go_ret
    exact ⟨congrArg (fun v => Ending.returned (.bool v)) T2.out, b1⟩
end Go.Proofs.Ytmnpneehlnmfmaa
