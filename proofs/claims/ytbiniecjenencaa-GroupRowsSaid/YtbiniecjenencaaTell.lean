/- What is known of two values, and of truths; what the program and the reference return. -/
import Derived.Test.YtbiniecjenencaaRight
set_option linter.unusedVariables false
set_option linter.unusedSimpArgs false
set_option maxRecDepth 10000
namespace Go.Proofs.Ytbiniecjenencaa
open Go.RowKit
set_option maxHeartbeats 1000000 in
theorem rright_any (a : V) (w : World) : Calls Try.prog 32 #[a.val] w (fun e w' => e = .returned (.bool (rightB a)) ∧ Below w.heap.size w w') := by
  obtain ⟨k, n, s⟩ := a
  simp only [V.val]
  go_enter Try.func32, Try.ntmps32
  go_wp2_with (first | (at_make; refine Stop.un ?_) | (at_builtin; refine Stop.un ?_) | (with_reducible refine Stop.conv 22 9 ?_) | (with_reducible refine Stop.conv 9 22 ?_))
  all_goals go_ret
  all_goals refine ⟨congrArg (fun b => Ending.returned (Value.bool b)) ?_, (Below.refl _ _).alloc (Nat.le_refl _) _⟩
  all_goals simp_all [rightB, rightP]
  all_goals first | omega | (cases s.toList <;> simp)
theorem bytesLess_irrefl : ∀ l : List UInt8, Op.bytesLess l l = false
  | [] => rfl
  | a :: l => by simp [Op.bytesLess, bytesLess_irrefl l]
set_option maxHeartbeats 1000000 in
theorem rcompare_any (a b : V) (w : World) : Calls Try.prog 47 #[a.val, b.val] w (fun e w' => e = .returned (.int .i64 (cmpV a b)) ∧ Below w.heap.size w w') := by
  obtain ⟨k, n, s⟩ := a
  obtain ⟨k', n', s'⟩ := b
  simp only [V.val]
  go_enter Try.func47, Try.ntmps47
  go_wp2_with (first | (at_make; refine Stop.un ?_) | (at_builtin; refine Stop.un ?_) | (with_reducible refine Stop.conv 22 9 ?_) | (with_reducible refine Stop.conv 9 22 ?_))
  all_goals go_ret
  all_goals refine ⟨congrArg (fun b => Ending.returned (Value.int .i64 b)) ?_, ((Below.refl _ _).alloc (Nat.le_refl _) _).alloc (by simp) _⟩
  all_goals simp_all [cmpV, cmpI, cmpS, or3]
  all_goals first | exact bytesLess_irrefl _ | (have h1 : ¬ k < k' := (by omega); have h2 : k' < k := (by omega); simp [h1, h2]) | (have h1 : ¬ n < n' := (by omega); have h2 : n' < n := (by omega); simp [h1, h2])
def truthV (a b : V) (is : Bool) : Int := if a.k = 0 ∨ b.k = 0 then 1 else if is then 2 else 0
def knownT (a : Int) : Int := if 2 < a then 1 else a
def andT (a b : Int) : Int := min (knownT a) (knownT b)
def orT (a b : Int) : Int := max (knownT a) (knownT b)
def notT (a : Int) : Int := 2 - knownT a
theorem knownT_range {a : Int} (h : 0 ≤ a) : 0 ≤ knownT a ∧ knownT a ≤ 2 := by unfold knownT; split <;> omega
end Go.Proofs.Ytbiniecjenencaa
