/- What Step, the reference's Step, and Put return. -/
import Derived.Test.YtmnpneehlnmfmaaDPlain
import Derived.Test.YtmnpneehlnmfmaaRef
set_option linter.unusedVariables false
namespace Go.Proofs.Ytmnpneehlnmfmaa
open Go.RowKit
set_option maxHeartbeats 400000 in
theorem step_any (a b : Int) (w : World) (ha0 : -9223372036854775808 ≤ a) (ha1 : a ≤ 9223372036854775807) (hb0 : -9223372036854775808 ≤ b) (hb1 : b ≤ 9223372036854775807) :
    Calls Try.prog 10 #[.int .i64 a, .int .i64 b] w (fun e w' => e = .returned (.tuple #[.int .i64 (stN a b), .int .i64 (stE a b)]) ∧ w = w') := by
  by_cases ho : -9223372036854775808 ≤ b - a ∧ b - a ≤ 9223372036854775807
  · have e1 : stN a b = b - a := by unfold stN stp; rw [if_pos (decide_eq_true ho)]
    have e2 : stE a b = 0 := by unfold stE stp; rw [if_pos (decide_eq_true ho)]
    rw [e1, e2]; clear e1 e2
    obtain ⟨ho1, ho2⟩ := ho
    have hE : (!decide (b - a < 0) == decide (b < a)) = false := by
      by_cases h : b < a
      · rw [decide_eq_true (show b - a < 0 by omega), decide_eq_true h]; rfl
      · rw [decide_eq_false (show ¬ b - a < 0 by omega), decide_eq_false h]; rfl
    go_enter Try.func10, Try.ntmps10
    go_wp2
    go_ret2
    exact ⟨rfl, rfl⟩
  · have hf : stp a b = false := decide_eq_false ho
    have e1 : stN a b = 0 := by unfold stN; rw [hf]; rfl
    have e2 : stE a b = 8 := by unfold stE; rw [hf]; rfl
    rw [e1, e2]; clear e1 e2 hf
    have hE : (!decide (wrap64 (b - a) < 0) == decide (b < a)) = true := by
      by_cases h : b < a
      · rw [show wrap64 (b - a) = b - a + 18446744073709551616 by unfold wrap64; omega, decide_eq_false (show ¬ b - a + 18446744073709551616 < 0 by omega), decide_eq_true h]; rfl
      · rw [show wrap64 (b - a) = b - a - 18446744073709551616 by unfold wrap64; omega, decide_eq_true (show b - a - 18446744073709551616 < 0 by omega), decide_eq_false h]; rfl
    go_enter Try.func10, Try.ntmps10
    go_wp2
    go_ret2
    exact ⟨rfl, rfl⟩

set_option maxHeartbeats 1000000 in
theorem rstep_any (a b : Int) (w : World) (ha0 : -9223372036854775808 ≤ a) (ha1 : a ≤ 9223372036854775807) (hb0 : -9223372036854775808 ≤ b) (hb1 : b ≤ 9223372036854775807) :
    Calls Try.prog 11 #[.int .i64 a, .int .i64 b] w (fun e w' => e = .returned (.tuple #[.int .i64 (stN a b), .int .i64 (stE a b)]) ∧ w = w') := by
  by_cases ho : -9223372036854775808 ≤ b - a ∧ b - a ≤ 9223372036854775807
  · have e1 : stN a b = b - a := by unfold stN stp; rw [if_pos (decide_eq_true ho)]
    have e2 : stE a b = 0 := by unfold stE stp; rw [if_pos (decide_eq_true ho)]
    rw [e1, e2]; clear e1 e2
    obtain ⟨ho1, ho2⟩ := ho
    by_cases ha : 0 ≤ a
    · by_cases hb : b < 0
      · have hn : ¬ b < -9223372036854775808 + a := by omega
        go_enter Try.func11, Try.ntmps11
        go_wp2
        go_ret2
        exact ⟨rfl, rfl⟩
      · go_enter Try.func11, Try.ntmps11
        go_wp2
        go_ret2
        exact ⟨rfl, rfl⟩
    · have ha' : a < 0 := by omega
      by_cases hb : 0 ≤ b
      · have hn : ¬ 9223372036854775807 + a < b := by omega
        go_enter Try.func11, Try.ntmps11
        go_wp2
        go_ret2
        exact ⟨rfl, rfl⟩
      · go_enter Try.func11, Try.ntmps11
        go_wp2
        go_ret2
        exact ⟨rfl, rfl⟩
  · have hf : stp a b = false := decide_eq_false ho
    have e1 : stN a b = 0 := by unfold stN; rw [hf]; rfl
    have e2 : stE a b = 8 := by unfold stE; rw [hf]; rfl
    rw [e1, e2]; clear e1 e2 hf
    by_cases ha : 0 ≤ a
    · have hb : b < 0 := by omega
      have hn : b < -9223372036854775808 + a := by omega
      clear ho
      go_enter Try.func11, Try.ntmps11
      go_wp2
      go_ret2
      exact ⟨rfl, rfl⟩
    · have ha' : a < 0 := by omega
      have hb : 0 ≤ b := by omega
      have hn : 9223372036854775807 + a < b := by omega
      clear ho
      go_enter Try.func11, Try.ntmps11
      go_wp2
      go_ret2
      exact ⟨rfl, rfl⟩
end Go.Proofs.Ytmnpneehlnmfmaa
