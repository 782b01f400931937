/- What Equal and Less of the program, and the reference's Less, return. -/
import Derived.Test.YtdpmaocbfmgmlaaLess
set_option linter.unusedVariables false
set_option linter.unusedSimpArgs false
namespace Go.Proofs.Ytdpmaocbfmgmlaa
open Go.RowKit
set_option maxHeartbeats 1000000 in
theorem equal_any (a b : V) (w : World) : Calls Try.prog 22 #[a.val, b.val] w (fun e w' => e = .returned (.int .u8 (truthV a b (eqV a b))) ∧ Below w.heap.size w w') := by
  have hp : eqV a b = (cmpV a b == 0) := (cmpV_eqV a b).symm
  rw [hp]
  clear hp
  have HT := Lib.hid (fun is w => truth_any a b is w)
  have HC := Lib.hid (fun w => compare_any a b w)
  generalize cmpV a b = c at HC ⊢
  obtain ⟨k, n, s⟩ := a
  obtain ⟨k', n', s'⟩ := b
  simp only [V.val] at HT HC ⊢
  go_enter Try.func22, Try.ntmps22
  go_wp2_with (first | (at_make; refine Stop.un ?_) | (at_builtin; refine Stop.un ?_) | (with_reducible refine Stop.conv 40 9 ?_) | (with_reducible refine Stop.conv 9 40 ?_))
  refine mix_startE 8 rfl (by kernel_rfl) ?_
  intro x1 hx1
  have e0 : x1.cell? ⟨w.heap.size, 0, none⟩ = some (.int .u8 k) := hx1.cell (by simp)
  have e1 : x1.cell? ⟨w.heap.size, 1, none⟩ = some (.int .i64 n) := hx1.cell (by simp)
  have e2 : x1.cell? ⟨w.heap.size, 2, none⟩ = some (.string s) := hx1.cell (by simp)
  have e3 : x1.cell? ⟨w.heap.size + 1, 0, none⟩ = some (.int .u8 k') := hx1.cell (by simp)
  have e4 : x1.cell? ⟨w.heap.size + 1, 1, none⟩ = some (.int .i64 n') := hx1.cell (by simp)
  have e5 : x1.cell? ⟨w.heap.size + 1, 2, none⟩ = some (.string s') := hx1.cell (by simp)
  refine mix_quiet Keeps.ext 0 rfl (by kernel_rfl) rfl ?_
  intro ι U hne hU
  have hcw0 := fun ii => (hU ii).cell e0
  have hcw1 := fun ii => (hU ii).cell e1
  have hcw2 := fun ii => (hU ii).cell e2
  go_big_quiet_op
  clear hU hne hcw0 hcw1 hcw2 U ι
  show wpAnyM _ _ _ _ _ _ _ _ _
  refine mix_quiet Keeps.ext 1 rfl (by kernel_rfl) rfl ?_
  intro ι U hne hU
  have hcw0 := fun ii => (hU ii).cell e3
  have hcw1 := fun ii => (hU ii).cell e4
  have hcw2 := fun ii => (hU ii).cell e5
  go_big_quiet_op
  clear hU hne hcw0 hcw1 hcw2 U ι
  show wpAnyM _ _ _ _ _ _ _ _ _
  refine mix_quiet Keeps.ext 2 rfl (by kernel_rfl) rfl ?_
  intro ι U hne hU
  have hcw0 := fun ii => (hU ii).cell e0
  have hcw1 := fun ii => (hU ii).cell e1
  have hcw2 := fun ii => (hU ii).cell e2
  go_big_quiet_op
  clear hU hne hcw0 hcw1 hcw2 U ι
  show wpAnyM _ _ _ _ _ _ _ _ _
  refine mix_quiet Keeps.ext 3 rfl (by kernel_rfl) rfl ?_
  intro ι U hne hU
  have hcw0 := fun ii => (hU ii).cell e3
  have hcw1 := fun ii => (hU ii).cell e4
  have hcw2 := fun ii => (hU ii).cell e5
  go_big_quiet_op
  clear hU hne hcw0 hcw1 hcw2 U ι
  show wpAnyM _ _ _ _ _ _ _ _ _
  clear e0 e1 e2 e3 e4 e5
  refine mix_any 4 rfl (by kernel_rfl) rfl ?_
  go_wp2_with (first | (at_make; refine Stop.un ?_) | (at_builtin; refine Stop.un ?_) | (with_reducible refine Stop.conv 40 9 ?_) | (with_reducible refine Stop.conv 9 40 ?_))
  refine (HC.out _).mono ?_
  rintro e w1 ⟨rfl, b1⟩
  go_wp2_with (first | (at_make; refine Stop.un ?_) | (at_builtin; refine Stop.un ?_) | (with_reducible refine Stop.conv 40 9 ?_) | (with_reducible refine Stop.conv 9 40 ?_))
  refine MixPost.mk b1 ?_
  refine mix_quiet Keeps.ext 5 rfl (by kernel_rfl) rfl ?_
  intro ι U hne hU
  go_big_quiet_op
  clear hU hne U ι
  show wpAnyM _ _ _ _ _ _ _ _ _
  refine mix_any 6 rfl (by kernel_rfl) rfl ?_
  go_wp2_with (first | (at_make; refine Stop.un ?_) | (at_builtin; refine Stop.un ?_) | (with_reducible refine Stop.conv 40 9 ?_) | (with_reducible refine Stop.conv 9 40 ?_))
  refine (HT.out _ _).mono ?_
  rintro e w2 ⟨rfl, b2⟩
  go_wp2_with (first | (at_make; refine Stop.un ?_) | (at_builtin; refine Stop.un ?_) | (with_reducible refine Stop.conv 40 9 ?_) | (with_reducible refine Stop.conv 9 40 ?_))
  refine MixPost.mk b2 ?_
  refine mix_quiet Keeps.ext 7 rfl (by kernel_rfl) rfl ?_
  intro ι U hne hU
  go_big_quiet_op
  clear hU hne U ι
  show wpAnyM _ _ _ _ _ _ _ _ _
  refine mix_end (by kernel_rfl) ?_
  have hb : Below w.heap.size w x1 := (((Below.refl _ _).alloc (Nat.le_refl _) _).alloc (by simp) _).next hx1
  clear hx1
  go_wp2_with (first | (at_make; refine Stop.un ?_) | (at_builtin; refine Stop.un ?_) | (with_reducible refine Stop.conv 40 9 ?_) | (with_reducible refine Stop.conv 9 40 ?_))
  go_ret
  exact ⟨rfl, (hb.next b1).next b2⟩
set_option maxHeartbeats 1000000 in
theorem less_any (a b : V) (w : World) : Calls Try.prog 23 #[a.val, b.val] w (fun e w' => e = .returned (.int .u8 (truthV a b (decide (cmpV a b < 0)))) ∧ Below w.heap.size w w') := by
  have hp : decide (cmpV a b < 0) = decide (cmpV a b < 0) := rfl
  rw [hp]
  clear hp
  have HT := Lib.hid (fun is w => truth_any a b is w)
  have HC := Lib.hid (fun w => compare_any a b w)
  generalize cmpV a b = c at HC ⊢
  obtain ⟨k, n, s⟩ := a
  obtain ⟨k', n', s'⟩ := b
  simp only [V.val] at HT HC ⊢
  go_enter Try.func23, Try.ntmps23
  go_wp2_with (first | (at_make; refine Stop.un ?_) | (at_builtin; refine Stop.un ?_) | (with_reducible refine Stop.conv 40 9 ?_) | (with_reducible refine Stop.conv 9 40 ?_))
  refine mix_startE 8 rfl (by kernel_rfl) ?_
  intro x1 hx1
  have e0 : x1.cell? ⟨w.heap.size, 0, none⟩ = some (.int .u8 k) := hx1.cell (by simp)
  have e1 : x1.cell? ⟨w.heap.size, 1, none⟩ = some (.int .i64 n) := hx1.cell (by simp)
  have e2 : x1.cell? ⟨w.heap.size, 2, none⟩ = some (.string s) := hx1.cell (by simp)
  have e3 : x1.cell? ⟨w.heap.size + 1, 0, none⟩ = some (.int .u8 k') := hx1.cell (by simp)
  have e4 : x1.cell? ⟨w.heap.size + 1, 1, none⟩ = some (.int .i64 n') := hx1.cell (by simp)
  have e5 : x1.cell? ⟨w.heap.size + 1, 2, none⟩ = some (.string s') := hx1.cell (by simp)
  refine mix_quiet Keeps.ext 0 rfl (by kernel_rfl) rfl ?_
  intro ι U hne hU
  have hcw0 := fun ii => (hU ii).cell e0
  have hcw1 := fun ii => (hU ii).cell e1
  have hcw2 := fun ii => (hU ii).cell e2
  go_big_quiet_op
  clear hU hne hcw0 hcw1 hcw2 U ι
  show wpAnyM _ _ _ _ _ _ _ _ _
  refine mix_quiet Keeps.ext 1 rfl (by kernel_rfl) rfl ?_
  intro ι U hne hU
  have hcw0 := fun ii => (hU ii).cell e3
  have hcw1 := fun ii => (hU ii).cell e4
  have hcw2 := fun ii => (hU ii).cell e5
  go_big_quiet_op
  clear hU hne hcw0 hcw1 hcw2 U ι
  show wpAnyM _ _ _ _ _ _ _ _ _
  refine mix_quiet Keeps.ext 2 rfl (by kernel_rfl) rfl ?_
  intro ι U hne hU
  have hcw0 := fun ii => (hU ii).cell e0
  have hcw1 := fun ii => (hU ii).cell e1
  have hcw2 := fun ii => (hU ii).cell e2
  go_big_quiet_op
  clear hU hne hcw0 hcw1 hcw2 U ι
  show wpAnyM _ _ _ _ _ _ _ _ _
  refine mix_quiet Keeps.ext 3 rfl (by kernel_rfl) rfl ?_
  intro ι U hne hU
  have hcw0 := fun ii => (hU ii).cell e3
  have hcw1 := fun ii => (hU ii).cell e4
  have hcw2 := fun ii => (hU ii).cell e5
  go_big_quiet_op
  clear hU hne hcw0 hcw1 hcw2 U ι
  show wpAnyM _ _ _ _ _ _ _ _ _
  clear e0 e1 e2 e3 e4 e5
  refine mix_any 4 rfl (by kernel_rfl) rfl ?_
  go_wp2_with (first | (at_make; refine Stop.un ?_) | (at_builtin; refine Stop.un ?_) | (with_reducible refine Stop.conv 40 9 ?_) | (with_reducible refine Stop.conv 9 40 ?_))
  refine (HC.out _).mono ?_
  rintro e w1 ⟨rfl, b1⟩
  go_wp2_with (first | (at_make; refine Stop.un ?_) | (at_builtin; refine Stop.un ?_) | (with_reducible refine Stop.conv 40 9 ?_) | (with_reducible refine Stop.conv 9 40 ?_))
  refine MixPost.mk b1 ?_
  refine mix_quiet Keeps.ext 5 rfl (by kernel_rfl) rfl ?_
  intro ι U hne hU
  go_big_quiet_op
  clear hU hne U ι
  show wpAnyM _ _ _ _ _ _ _ _ _
  refine mix_any 6 rfl (by kernel_rfl) rfl ?_
  go_wp2_with (first | (at_make; refine Stop.un ?_) | (at_builtin; refine Stop.un ?_) | (with_reducible refine Stop.conv 40 9 ?_) | (with_reducible refine Stop.conv 9 40 ?_))
  refine (HT.out _ _).mono ?_
  rintro e w2 ⟨rfl, b2⟩
  go_wp2_with (first | (at_make; refine Stop.un ?_) | (at_builtin; refine Stop.un ?_) | (with_reducible refine Stop.conv 40 9 ?_) | (with_reducible refine Stop.conv 9 40 ?_))
  refine MixPost.mk b2 ?_
  refine mix_quiet Keeps.ext 7 rfl (by kernel_rfl) rfl ?_
  intro ι U hne hU
  go_big_quiet_op
  clear hU hne U ι
  show wpAnyM _ _ _ _ _ _ _ _ _
  refine mix_end (by kernel_rfl) ?_
  have hb : Below w.heap.size w x1 := (((Below.refl _ _).alloc (Nat.le_refl _) _).alloc (by simp) _).next hx1
  clear hx1
  go_wp2_with (first | (at_make; refine Stop.un ?_) | (at_builtin; refine Stop.un ?_) | (with_reducible refine Stop.conv 40 9 ?_) | (with_reducible refine Stop.conv 9 40 ?_))
  go_ret
  exact ⟨rfl, (hb.next b1).next b2⟩
end Go.Proofs.Ytdpmaocbfmgmlaa
