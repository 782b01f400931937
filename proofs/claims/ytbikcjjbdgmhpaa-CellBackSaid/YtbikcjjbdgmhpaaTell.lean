/- What is known of two values, and of truths; what the program and the reference return. -/
import Derived.Test.YtbikcjjbdgmhpaaRight
set_option linter.unusedVariables false
namespace Go.Proofs.Ytbikcjjbdgmhpaa
open Go.RowKit
set_option maxHeartbeats 1000000 in
theorem rright_any (a : V) (w : World) : Calls Try.prog 29 #[a.val] w (fun e w' => e = .returned (.bool (rightB a)) ∧ Below w.heap.size w w') := by
  obtain ⟨k, n, s⟩ := a
  simp only [V.val]
  go_enter Try.func29, Try.ntmps29
  go_wp2_with (first | (at_make; refine Stop.un ?_) | (at_builtin; refine Stop.un ?_) | (with_reducible refine Stop.conv 33 9 ?_) | (with_reducible refine Stop.conv 9 33 ?_))
  all_goals go_ret
  all_goals refine ⟨congrArg (fun b => Ending.returned (Value.bool b)) ?_, (Below.refl _ _).alloc (Nat.le_refl _) _⟩
  all_goals simp_all [rightB, rightP]
  all_goals first | omega | (cases s.toList <;> simp)
theorem bytesLess_irrefl : ∀ l : List UInt8, Op.bytesLess l l = false
  | [] => rfl
  | a :: l => by simp [Op.bytesLess, bytesLess_irrefl l]
set_option maxHeartbeats 1000000 in
theorem rcompare_any (a b : V) (w : World) : Calls Try.prog 31 #[a.val, b.val] w (fun e w' => e = .returned (.int .i64 (cmpV a b)) ∧ Below w.heap.size w w') := by
  obtain ⟨k, n, s⟩ := a
  obtain ⟨k', n', s'⟩ := b
  simp only [V.val]
  go_enter Try.func31, Try.ntmps31
  go_wp2_with (first | (at_make; refine Stop.un ?_) | (at_builtin; refine Stop.un ?_) | (with_reducible refine Stop.conv 33 9 ?_) | (with_reducible refine Stop.conv 9 33 ?_))
  all_goals go_ret
  all_goals refine ⟨congrArg (fun b => Ending.returned (Value.int .i64 b)) ?_, ((Below.refl _ _).alloc (Nat.le_refl _) _).alloc (by simp) _⟩
  all_goals simp_all [cmpV, cmpI, cmpS, or3]
  all_goals first | exact bytesLess_irrefl _ | (have h1 : ¬ k < k' := (by omega); have h2 : k' < k := (by omega); simp [h1, h2]) | (have h1 : ¬ n < n' := (by omega); have h2 : n' < n := (by omega); simp [h1, h2])
def truthV (a b : V) (is : Bool) : Int := if a.k = 0 ∨ b.k = 0 then 1 else if is then 2 else 0
def knownT (a : Int) : Int := if 2 < a then 1 else a
def andT (a b : Int) : Int := min (knownT a) (knownT b)
def orT (a b : Int) : Int := max (knownT a) (knownT b)
def notT (a : Int) : Int := 2 - knownT a
theorem knownT_range {a : Int} (h : 0 ≤ a) : 0 ≤ knownT a ∧ knownT a ≤ 2 := by unfold knownT; split <;> omega
set_option maxHeartbeats 1000000 in
theorem truth_any (a b : V) (is : Bool) (w : World) : Calls Try.prog 48 #[a.val, b.val, .bool is] w (fun e w' => e = .returned (.int .u8 (truthV a b is)) ∧ Below w.heap.size w w') := by
  obtain ⟨k, n, s⟩ := a
  obtain ⟨k', n', s'⟩ := b
  simp only [V.val]
  go_enter Try.func48, Try.ntmps48
  go_wp2_with (first | (at_make; refine Stop.un ?_) | (at_builtin; refine Stop.un ?_) | (with_reducible refine Stop.conv 33 9 ?_) | (with_reducible refine Stop.conv 9 33 ?_))
  all_goals go_ret
  all_goals refine ⟨congrArg (fun b => Ending.returned (Value.int .u8 b)) ?_, ((Below.refl _ _).alloc (Nat.le_refl _) _).alloc (by simp) _⟩
  all_goals simp_all [truthV]

set_option maxHeartbeats 1000000 in
theorem rtruth_any (a b : V) (is : Bool) (w : World) : Calls Try.prog 49 #[a.val, b.val, .bool is] w (fun e w' => e = .returned (.int .u8 (truthV a b is)) ∧ Below w.heap.size w w') := by
  obtain ⟨k, n, s⟩ := a
  obtain ⟨k', n', s'⟩ := b
  simp only [V.val]
  go_enter Try.func49, Try.ntmps49
  go_wp2_with (first | (at_make; refine Stop.un ?_) | (at_builtin; refine Stop.un ?_) | (with_reducible refine Stop.conv 33 9 ?_) | (with_reducible refine Stop.conv 9 33 ?_))
  all_goals go_ret
  all_goals refine ⟨congrArg (fun b => Ending.returned (Value.int .u8 b)) ?_, ((Below.refl _ _).alloc (Nat.le_refl _) _).alloc (by simp) _⟩
  all_goals simp_all [truthV]

set_option maxHeartbeats 1000000 in
theorem known_any (a : Int) (w : World) : Calls Try.prog 45 #[.int .u8 a] w (fun e w' => e = .returned (.int .u8 (knownT a)) ∧ w = w') := by
  unfold knownT
  by_cases h : 2 < a
  · rw [if_pos h]
    go_enter Try.func45, Try.ntmps45
    go_wp2
    go_ret
    exact ⟨rfl, rfl⟩
  · rw [if_neg h]
    go_enter Try.func45, Try.ntmps45
    go_wp2
    go_ret
    exact ⟨rfl, rfl⟩

set_option maxHeartbeats 1000000 in
theorem rknown_any (a : Int) (w : World) : Calls Try.prog 46 #[.int .u8 a] w (fun e w' => e = .returned (.int .u8 (knownT a)) ∧ w = w') := by
  unfold knownT
  by_cases h : 2 < a
  · rw [if_pos h]
    go_enter Try.func46, Try.ntmps46
    go_wp2
    go_ret
    exact ⟨rfl, rfl⟩
  · rw [if_neg h]
    go_enter Try.func46, Try.ntmps46
    go_wp2
    go_ret
    exact ⟨rfl, rfl⟩

set_option maxHeartbeats 1000000 in
theorem and_any (a b : Int) (w : World) : Calls Try.prog 12 #[.int .u8 a, .int .u8 b] w (fun e w' => e = .returned (.int .u8 (andT a b)) ∧ w = w') := by
  have h1 := fun w => known_any a w
  have h2 := fun w => known_any b w
  unfold andT
  generalize knownT a = x at h1 ⊢
  generalize knownT b = y at h2 ⊢
  have H1 := Lib.hid h1
  have H2 := Lib.hid h2
  clear h1 h2
  go_enter Try.func12, Try.ntmps12
  go_wp2_with (first | (at_make; refine Stop.un ?_) | (at_builtin; refine Stop.un ?_) | (with_reducible refine Stop.conv 33 9 ?_) | (with_reducible refine Stop.conv 9 33 ?_))
  refine (H1.out _).mono ?_
  rintro e w1 ⟨rfl, rfl⟩
  go_wp2_with (first | (at_make; refine Stop.un ?_) | (at_builtin; refine Stop.un ?_) | (with_reducible refine Stop.conv 33 9 ?_) | (with_reducible refine Stop.conv 9 33 ?_))
  refine (H2.out _).mono ?_
  rintro e w1 ⟨rfl, rfl⟩
  go_wp2_with (first | (at_make; refine Stop.un ?_) | (at_builtin; refine Stop.un ?_) | (with_reducible refine Stop.conv 33 9 ?_) | (with_reducible refine Stop.conv 9 33 ?_))
  all_goals go_ret
  all_goals exact ⟨congrArg (fun b => Ending.returned (Value.int .u8 b)) (by omega), rfl⟩

set_option maxHeartbeats 1000000 in
theorem or2_any (a b : Int) (w : World) : Calls Try.prog 14 #[.int .u8 a, .int .u8 b] w (fun e w' => e = .returned (.int .u8 (orT a b)) ∧ w = w') := by
  have h1 := fun w => known_any a w
  have h2 := fun w => known_any b w
  unfold orT
  generalize knownT a = x at h1 ⊢
  generalize knownT b = y at h2 ⊢
  have H1 := Lib.hid h1
  have H2 := Lib.hid h2
  clear h1 h2
  go_enter Try.func14, Try.ntmps14
  go_wp2_with (first | (at_make; refine Stop.un ?_) | (at_builtin; refine Stop.un ?_) | (with_reducible refine Stop.conv 33 9 ?_) | (with_reducible refine Stop.conv 9 33 ?_))
  refine (H1.out _).mono ?_
  rintro e w1 ⟨rfl, rfl⟩
  go_wp2_with (first | (at_make; refine Stop.un ?_) | (at_builtin; refine Stop.un ?_) | (with_reducible refine Stop.conv 33 9 ?_) | (with_reducible refine Stop.conv 9 33 ?_))
  refine (H2.out _).mono ?_
  rintro e w1 ⟨rfl, rfl⟩
  go_wp2_with (first | (at_make; refine Stop.un ?_) | (at_builtin; refine Stop.un ?_) | (with_reducible refine Stop.conv 33 9 ?_) | (with_reducible refine Stop.conv 9 33 ?_))
  all_goals go_ret
  all_goals exact ⟨congrArg (fun b => Ending.returned (Value.int .u8 b)) (by omega), rfl⟩

set_option maxHeartbeats 1000000 in
theorem rand_any (a b : Int) (w : World) : Calls Try.prog 13 #[.int .u8 a, .int .u8 b] w (fun e w' => e = .returned (.int .u8 (andT a b)) ∧ w = w') := by
  have h1 := fun w => rknown_any a w
  have h2 := fun w => rknown_any b w
  unfold andT
  generalize knownT a = x at h1 ⊢
  generalize knownT b = y at h2 ⊢
  have H1 := Lib.hid h1
  have H2 := Lib.hid h2
  clear h1 h2
  go_enter Try.func13, Try.ntmps13
  go_wp2_with (first | (at_make; refine Stop.un ?_) | (at_builtin; refine Stop.un ?_) | (with_reducible refine Stop.conv 33 9 ?_) | (with_reducible refine Stop.conv 9 33 ?_))
  refine (H1.out _).mono ?_
  rintro e w1 ⟨rfl, rfl⟩
  go_wp2_with (first | (at_make; refine Stop.un ?_) | (at_builtin; refine Stop.un ?_) | (with_reducible refine Stop.conv 33 9 ?_) | (with_reducible refine Stop.conv 9 33 ?_))
  refine (H2.out _).mono ?_
  rintro e w1 ⟨rfl, rfl⟩
  go_wp2_with (first | (at_make; refine Stop.un ?_) | (at_builtin; refine Stop.un ?_) | (with_reducible refine Stop.conv 33 9 ?_) | (with_reducible refine Stop.conv 9 33 ?_))
  all_goals go_ret
  all_goals exact ⟨congrArg (fun b => Ending.returned (Value.int .u8 b)) (by omega), rfl⟩

set_option maxHeartbeats 1000000 in
theorem ror2_any (a b : Int) (w : World) : Calls Try.prog 15 #[.int .u8 a, .int .u8 b] w (fun e w' => e = .returned (.int .u8 (orT a b)) ∧ w = w') := by
  have h1 := fun w => rknown_any a w
  have h2 := fun w => rknown_any b w
  unfold orT
  generalize knownT a = x at h1 ⊢
  generalize knownT b = y at h2 ⊢
  have H1 := Lib.hid h1
  have H2 := Lib.hid h2
  clear h1 h2
  go_enter Try.func15, Try.ntmps15
  go_wp2_with (first | (at_make; refine Stop.un ?_) | (at_builtin; refine Stop.un ?_) | (with_reducible refine Stop.conv 33 9 ?_) | (with_reducible refine Stop.conv 9 33 ?_))
  refine (H1.out _).mono ?_
  rintro e w1 ⟨rfl, rfl⟩
  go_wp2_with (first | (at_make; refine Stop.un ?_) | (at_builtin; refine Stop.un ?_) | (with_reducible refine Stop.conv 33 9 ?_) | (with_reducible refine Stop.conv 9 33 ?_))
  refine (H2.out _).mono ?_
  rintro e w1 ⟨rfl, rfl⟩
  go_wp2_with (first | (at_make; refine Stop.un ?_) | (at_builtin; refine Stop.un ?_) | (with_reducible refine Stop.conv 33 9 ?_) | (with_reducible refine Stop.conv 9 33 ?_))
  all_goals go_ret
  all_goals exact ⟨congrArg (fun b => Ending.returned (Value.int .u8 b)) (by omega), rfl⟩

set_option maxHeartbeats 1000000 in
theorem not_any (a : Int) (w : World) (h : 0 ≤ a) : Calls Try.prog 16 #[.int .u8 a] w (fun e w' => e = .returned (.int .u8 (notT a)) ∧ w = w') := by
  obtain ⟨h0, h1⟩ := knownT_range h
  have h2 := fun w => known_any a w
  unfold notT
  generalize knownT a = x at h0 h1 h2 ⊢
  have H2 := Lib.hid h2
  clear h2
  go_enter Try.func16, Try.ntmps16
  go_wp2_with (first | (at_make; refine Stop.un ?_) | (at_builtin; refine Stop.un ?_) | (with_reducible refine Stop.conv 33 9 ?_) | (with_reducible refine Stop.conv 9 33 ?_))
  refine (H2.out _).mono ?_
  rintro e w1 ⟨rfl, rfl⟩
  go_wp2_with (first | (at_make; refine Stop.un ?_) | (at_builtin; refine Stop.un ?_) | (with_reducible refine Stop.conv 33 9 ?_) | (with_reducible refine Stop.conv 9 33 ?_))
  go_ret
  exact ⟨rfl, rfl⟩

set_option maxHeartbeats 1000000 in
theorem rnot_any (a : Int) (w : World) (h : 0 ≤ a) : Calls Try.prog 17 #[.int .u8 a] w (fun e w' => e = .returned (.int .u8 (notT a)) ∧ w = w') := by
  obtain ⟨h0, h1⟩ := knownT_range h
  have h2 := fun w => rknown_any a w
  unfold notT
  generalize knownT a = x at h0 h1 h2 ⊢
  have H2 := Lib.hid h2
  clear h2
  go_enter Try.func17, Try.ntmps17
  go_wp2_with (first | (at_make; refine Stop.un ?_) | (at_builtin; refine Stop.un ?_) | (with_reducible refine Stop.conv 33 9 ?_) | (with_reducible refine Stop.conv 9 33 ?_))
  refine (H2.out _).mono ?_
  rintro e w1 ⟨rfl, rfl⟩
  go_wp2_with (first | (at_make; refine Stop.un ?_) | (at_builtin; refine Stop.un ?_) | (with_reducible refine Stop.conv 33 9 ?_) | (with_reducible refine Stop.conv 9 33 ?_))
  go_ret
  exact ⟨rfl, rfl⟩

end Go.Proofs.Ytbikcjjbdgmhpaa
