/- What is known of two parts: what the program returns. -/
import Derived.Test.YtdpmaocbfmgmlaaZOne
set_option linter.unusedVariables false
set_option linter.unusedSimpArgs false
namespace Go.Proofs.Ytdpmaocbfmgmlaa
open Go.RowKit
set_option maxHeartbeats 2000000 in
theorem merge_any (a b : Zn) (w : World) : Calls Try.prog 14 #[a.val, b.val] w (fun e w' => e = .returned (mergeZ a b).val ∧ Below w.heap.size w w') := by
  obtain ⟨⟨k, n, s⟩, ⟨k', n', s'⟩, nu, ma⟩ := a
  obtain ⟨⟨k2, n2, s2⟩, ⟨k2', n2', s2'⟩, nu2, ma2⟩ := b
  have HC := Lib.hid (fun w => choose_any ⟨k, n, s⟩ ⟨k2, n2, s2⟩ (-1) w)
  have HD := Lib.hid (fun w => choose_any ⟨k', n', s'⟩ ⟨k2', n2', s2'⟩ 1 w)
  unfold mergeZ
  simp only
  generalize chooseV ⟨k, n, s⟩ ⟨k2, n2, s2⟩ (-1) = c at HC ⊢
  generalize chooseV ⟨k', n', s'⟩ ⟨k2', n2', s2'⟩ 1 = d at HD ⊢
  obtain ⟨k3, n3, s3⟩ := c
  obtain ⟨k4, n4, s4⟩ := d
  simp only [V.val] at HC HD
  simp only [Zn.val]
  go_enter Try.func14, Try.ntmps14
  go_wp2_with (first | (at_make; refine Stop.un ?_) | (at_builtin; refine Stop.un ?_) | (with_reducible refine Stop.conv 40 9 ?_) | (with_reducible refine Stop.conv 9 40 ?_))
  have z1 : At (((w.alloc (.cells #[.int .u8 k, .int .i64 n, .string s, .int .u8 k', .int .i64 n', .string s', .int .i64 nu, .int .i64 ma] 26)).alloc (.cells #[.int .u8 k2, .int .i64 n2, .string s2, .int .u8 k2', .int .i64 n2', .string s2', .int .i64 nu2, .int .i64 ma2] 26)).alloc (.cells #[.int .u8 0, .int .i64 0, .string ⟨#[]⟩, .int .u8 0, .int .i64 0, .string ⟨#[]⟩, .int .i64 0, .int .i64 0] 26)) (w.heap.size) #[.int .u8 k, .int .i64 n, .string s, .int .u8 k', .int .i64 n', .string s', .int .i64 nu, .int .i64 ma] 26 := by simpa only [World.size_alloc, Nat.add_assoc, Nat.reduceAdd] using ((At.new w #[.int .u8 k, .int .i64 n, .string s, .int .u8 k', .int .i64 n', .string s', .int .i64 nu, .int .i64 ma] 26).alloc (.cells #[.int .u8 k2, .int .i64 n2, .string s2, .int .u8 k2', .int .i64 n2', .string s2', .int .i64 nu2, .int .i64 ma2] 26)).alloc (.cells #[.int .u8 0, .int .i64 0, .string ⟨#[]⟩, .int .u8 0, .int .i64 0, .string ⟨#[]⟩, .int .i64 0, .int .i64 0] 26)
  have z2 : At (((w.alloc (.cells #[.int .u8 k, .int .i64 n, .string s, .int .u8 k', .int .i64 n', .string s', .int .i64 nu, .int .i64 ma] 26)).alloc (.cells #[.int .u8 k2, .int .i64 n2, .string s2, .int .u8 k2', .int .i64 n2', .string s2', .int .i64 nu2, .int .i64 ma2] 26)).alloc (.cells #[.int .u8 0, .int .i64 0, .string ⟨#[]⟩, .int .u8 0, .int .i64 0, .string ⟨#[]⟩, .int .i64 0, .int .i64 0] 26)) (w.heap.size + 1) #[.int .u8 k2, .int .i64 n2, .string s2, .int .u8 k2', .int .i64 n2', .string s2', .int .i64 nu2, .int .i64 ma2] 26 := by simpa only [World.size_alloc, Nat.add_assoc, Nat.reduceAdd] using (At.new (w.alloc (.cells #[.int .u8 k, .int .i64 n, .string s, .int .u8 k', .int .i64 n', .string s', .int .i64 nu, .int .i64 ma] 26)) #[.int .u8 k2, .int .i64 n2, .string s2, .int .u8 k2', .int .i64 n2', .string s2', .int .i64 nu2, .int .i64 ma2] 26).alloc (.cells #[.int .u8 0, .int .i64 0, .string ⟨#[]⟩, .int .u8 0, .int .i64 0, .string ⟨#[]⟩, .int .i64 0, .int .i64 0] 26)
  have z3 : At (((w.alloc (.cells #[.int .u8 k, .int .i64 n, .string s, .int .u8 k', .int .i64 n', .string s', .int .i64 nu, .int .i64 ma] 26)).alloc (.cells #[.int .u8 k2, .int .i64 n2, .string s2, .int .u8 k2', .int .i64 n2', .string s2', .int .i64 nu2, .int .i64 ma2] 26)).alloc (.cells #[.int .u8 0, .int .i64 0, .string ⟨#[]⟩, .int .u8 0, .int .i64 0, .string ⟨#[]⟩, .int .i64 0, .int .i64 0] 26)) (w.heap.size + 2) #[.int .u8 0, .int .i64 0, .string ⟨#[]⟩, .int .u8 0, .int .i64 0, .string ⟨#[]⟩, .int .i64 0, .int .i64 0] 26 := by simpa only [World.size_alloc, Nat.add_assoc, Nat.reduceAdd] using At.new ((w.alloc (.cells #[.int .u8 k, .int .i64 n, .string s, .int .u8 k', .int .i64 n', .string s', .int .i64 nu, .int .i64 ma] 26)).alloc (.cells #[.int .u8 k2, .int .i64 n2, .string s2, .int .u8 k2', .int .i64 n2', .string s2', .int .i64 nu2, .int .i64 ma2] 26)) #[.int .u8 0, .int .i64 0, .string ⟨#[]⟩, .int .u8 0, .int .i64 0, .string ⟨#[]⟩, .int .i64 0, .int .i64 0] 26
  have BB : Below w.heap.size w (((w.alloc (.cells #[.int .u8 k, .int .i64 n, .string s, .int .u8 k', .int .i64 n', .string s', .int .i64 nu, .int .i64 ma] 26)).alloc (.cells #[.int .u8 k2, .int .i64 n2, .string s2, .int .u8 k2', .int .i64 n2', .string s2', .int .i64 nu2, .int .i64 ma2] 26)).alloc (.cells #[.int .u8 0, .int .i64 0, .string ⟨#[]⟩, .int .u8 0, .int .i64 0, .string ⟨#[]⟩, .int .i64 0, .int .i64 0] 26)) := Below.alloc (Below.alloc (Below.alloc (Below.refl w.heap.size w) (by (try simp only [World.size_alloc]) <;> omega) (.cells #[.int .u8 k, .int .i64 n, .string s, .int .u8 k', .int .i64 n', .string s', .int .i64 nu, .int .i64 ma] 26)) (by (try simp only [World.size_alloc]) <;> omega) (.cells #[.int .u8 k2, .int .i64 n2, .string s2, .int .u8 k2', .int .i64 n2', .string s2', .int .i64 nu2, .int .i64 ma2] 26)) (by (try simp only [World.size_alloc]) <;> omega) (.cells #[.int .u8 0, .int .i64 0, .string ⟨#[]⟩, .int .u8 0, .int .i64 0, .string ⟨#[]⟩, .int .i64 0, .int .i64 0] 26)
  have z1_b : w.heap.size < w.heap.size + 2 := by omega
  have z2_b : w.heap.size + 1 < w.heap.size + 2 := by omega
  have HSZ : Hid (w.heap.size + 2 ≤ (((w.alloc (.cells #[.int .u8 k, .int .i64 n, .string s, .int .u8 k', .int .i64 n', .string s', .int .i64 nu, .int .i64 ma] 26)).alloc (.cells #[.int .u8 k2, .int .i64 n2, .string s2, .int .u8 k2', .int .i64 n2', .string s2', .int .i64 nu2, .int .i64 ma2] 26)).alloc (.cells #[.int .u8 0, .int .i64 0, .string ⟨#[]⟩, .int .u8 0, .int .i64 0, .string ⟨#[]⟩, .int .i64 0, .int .i64 0] 26)).heap.size) := Lib.hid (by (try simp only [World.size_alloc]) <;> omega)
  refine mix_startX (w.heap.size + 2) none 22 rfl (by kernel_rfl) ?_
  intro xq hxq
  replace z1 := At.mono z1 hxq
  replace z2 := At.mono z2 hxq
  replace z3 := At.mono z3 hxq
  replace BB := Below.next BB hxq
  replace HSZ := Lib.hid (Nat.le_trans (Hid.out HSZ) (Below.size hxq))
  clear hxq
  refine mix_quiet (Keeps.rx (w.heap.size + 2) none) 0 rfl (by kernel_rfl) rfl ?_
  intro ι U hne hU
  go_big_quiet_op
  clear hU hne U ι
  show wpAnyM _ _ _ _ _ _ _ _ _
  refine mix_quiet (Keeps.rx (w.heap.size + 2) none) 1 rfl (by kernel_rfl) rfl ?_
  intro ι U hne hU
  have hcw0 := fun ii => (RX.at (hU ii) z1 z1_b).cell 0 rfl
  have hcw1 := fun ii => (RX.at (hU ii) z1 z1_b).cell 1 rfl
  have hcw2 := fun ii => (RX.at (hU ii) z1 z1_b).cell 2 rfl
  have hcw3 := fun ii => (RX.at (hU ii) z1 z1_b).cell 3 rfl
  have hcw4 := fun ii => (RX.at (hU ii) z1 z1_b).cell 4 rfl
  have hcw5 := fun ii => (RX.at (hU ii) z1 z1_b).cell 5 rfl
  have hcw6 := fun ii => (RX.at (hU ii) z1 z1_b).cell 6 rfl
  have hcw7 := fun ii => (RX.at (hU ii) z1 z1_b).cell 7 rfl
  have hcw8 := fun ii => (RX.at (hU ii) z2 z2_b).cell 0 rfl
  have hcw9 := fun ii => (RX.at (hU ii) z2 z2_b).cell 1 rfl
  have hcw10 := fun ii => (RX.at (hU ii) z2 z2_b).cell 2 rfl
  have hcw11 := fun ii => (RX.at (hU ii) z2 z2_b).cell 3 rfl
  have hcw12 := fun ii => (RX.at (hU ii) z2 z2_b).cell 4 rfl
  have hcw13 := fun ii => (RX.at (hU ii) z2 z2_b).cell 5 rfl
  have hcw14 := fun ii => (RX.at (hU ii) z2 z2_b).cell 6 rfl
  have hcw15 := fun ii => (RX.at (hU ii) z2 z2_b).cell 7 rfl
  go_big_quiet_op
  clear hU hne hcw0 hcw1 hcw2 hcw3 hcw4 hcw5 hcw6 hcw7 hcw8 hcw9 hcw10 hcw11 hcw12 hcw13 hcw14 hcw15 U ι
  show wpAnyM _ _ _ _ _ _ _ _ _
  refine mix_quiet (Keeps.rx (w.heap.size + 2) none) 2 rfl (by kernel_rfl) rfl ?_
  intro ι U hne hU
  go_big_quiet_op
  clear hU hne U ι
  show wpAnyM _ _ _ _ _ _ _ _ _
  refine mix_quiet (Keeps.rx (w.heap.size + 2) none) 3 rfl (by kernel_rfl) rfl ?_
  intro ι U hne hU
  have hcw0 := fun ii => (RX.at (hU ii) z1 z1_b).cell 0 rfl
  have hcw1 := fun ii => (RX.at (hU ii) z1 z1_b).cell 1 rfl
  have hcw2 := fun ii => (RX.at (hU ii) z1 z1_b).cell 2 rfl
  have hcw3 := fun ii => (RX.at (hU ii) z1 z1_b).cell 3 rfl
  have hcw4 := fun ii => (RX.at (hU ii) z1 z1_b).cell 4 rfl
  have hcw5 := fun ii => (RX.at (hU ii) z1 z1_b).cell 5 rfl
  have hcw6 := fun ii => (RX.at (hU ii) z1 z1_b).cell 6 rfl
  have hcw7 := fun ii => (RX.at (hU ii) z1 z1_b).cell 7 rfl
  have hcw8 := fun ii => (RX.at (hU ii) z2 z2_b).cell 0 rfl
  have hcw9 := fun ii => (RX.at (hU ii) z2 z2_b).cell 1 rfl
  have hcw10 := fun ii => (RX.at (hU ii) z2 z2_b).cell 2 rfl
  have hcw11 := fun ii => (RX.at (hU ii) z2 z2_b).cell 3 rfl
  have hcw12 := fun ii => (RX.at (hU ii) z2 z2_b).cell 4 rfl
  have hcw13 := fun ii => (RX.at (hU ii) z2 z2_b).cell 5 rfl
  have hcw14 := fun ii => (RX.at (hU ii) z2 z2_b).cell 6 rfl
  have hcw15 := fun ii => (RX.at (hU ii) z2 z2_b).cell 7 rfl
  go_big_quiet_op
  clear hU hne hcw0 hcw1 hcw2 hcw3 hcw4 hcw5 hcw6 hcw7 hcw8 hcw9 hcw10 hcw11 hcw12 hcw13 hcw14 hcw15 U ι
  show wpAnyM _ _ _ _ _ _ _ _ _
  refine mix_quiet (Keeps.rx (w.heap.size + 2) none) 5 rfl (by kernel_rfl) rfl ?_
  intro ι U hne hU
  go_big_quiet_op
  clear hU hne U ι
  show wpAnyM _ _ _ _ _ _ _ _ _
  refine mix_quiet (Keeps.rx (w.heap.size + 2) none) 6 rfl (by kernel_rfl) rfl ?_
  intro ι U hne hU
  have hcw0 := fun ii => (RX.at (hU ii) z1 z1_b).cell 0 rfl
  have hcw1 := fun ii => (RX.at (hU ii) z1 z1_b).cell 1 rfl
  have hcw2 := fun ii => (RX.at (hU ii) z1 z1_b).cell 2 rfl
  have hcw3 := fun ii => (RX.at (hU ii) z1 z1_b).cell 3 rfl
  have hcw4 := fun ii => (RX.at (hU ii) z1 z1_b).cell 4 rfl
  have hcw5 := fun ii => (RX.at (hU ii) z1 z1_b).cell 5 rfl
  have hcw6 := fun ii => (RX.at (hU ii) z1 z1_b).cell 6 rfl
  have hcw7 := fun ii => (RX.at (hU ii) z1 z1_b).cell 7 rfl
  have hcw8 := fun ii => (RX.at (hU ii) z2 z2_b).cell 0 rfl
  have hcw9 := fun ii => (RX.at (hU ii) z2 z2_b).cell 1 rfl
  have hcw10 := fun ii => (RX.at (hU ii) z2 z2_b).cell 2 rfl
  have hcw11 := fun ii => (RX.at (hU ii) z2 z2_b).cell 3 rfl
  have hcw12 := fun ii => (RX.at (hU ii) z2 z2_b).cell 4 rfl
  have hcw13 := fun ii => (RX.at (hU ii) z2 z2_b).cell 5 rfl
  have hcw14 := fun ii => (RX.at (hU ii) z2 z2_b).cell 6 rfl
  have hcw15 := fun ii => (RX.at (hU ii) z2 z2_b).cell 7 rfl
  go_big_quiet_op
  clear hU hne hcw0 hcw1 hcw2 hcw3 hcw4 hcw5 hcw6 hcw7 hcw8 hcw9 hcw10 hcw11 hcw12 hcw13 hcw14 hcw15 U ι
  show wpAnyM _ _ _ _ _ _ _ _ _
  refine mix_quiet (Keeps.rx (w.heap.size + 2) none) 7 rfl (by kernel_rfl) rfl ?_
  intro ι U hne hU
  go_big_quiet_op
  clear hU hne U ι
  show wpAnyM _ _ _ _ _ _ _ _ _
  refine mix_quiet (Keeps.rx (w.heap.size + 2) none) 8 rfl (by kernel_rfl) rfl ?_
  intro ι U hne hU
  have hcw0 := fun ii => (RX.at (hU ii) z1 z1_b).cell 0 rfl
  have hcw1 := fun ii => (RX.at (hU ii) z1 z1_b).cell 1 rfl
  have hcw2 := fun ii => (RX.at (hU ii) z1 z1_b).cell 2 rfl
  have hcw3 := fun ii => (RX.at (hU ii) z1 z1_b).cell 3 rfl
  have hcw4 := fun ii => (RX.at (hU ii) z1 z1_b).cell 4 rfl
  have hcw5 := fun ii => (RX.at (hU ii) z1 z1_b).cell 5 rfl
  have hcw6 := fun ii => (RX.at (hU ii) z1 z1_b).cell 6 rfl
  have hcw7 := fun ii => (RX.at (hU ii) z1 z1_b).cell 7 rfl
  have hcw8 := fun ii => (RX.at (hU ii) z2 z2_b).cell 0 rfl
  have hcw9 := fun ii => (RX.at (hU ii) z2 z2_b).cell 1 rfl
  have hcw10 := fun ii => (RX.at (hU ii) z2 z2_b).cell 2 rfl
  have hcw11 := fun ii => (RX.at (hU ii) z2 z2_b).cell 3 rfl
  have hcw12 := fun ii => (RX.at (hU ii) z2 z2_b).cell 4 rfl
  have hcw13 := fun ii => (RX.at (hU ii) z2 z2_b).cell 5 rfl
  have hcw14 := fun ii => (RX.at (hU ii) z2 z2_b).cell 6 rfl
  have hcw15 := fun ii => (RX.at (hU ii) z2 z2_b).cell 7 rfl
  go_big_quiet_op
  clear hU hne hcw0 hcw1 hcw2 hcw3 hcw4 hcw5 hcw6 hcw7 hcw8 hcw9 hcw10 hcw11 hcw12 hcw13 hcw14 hcw15 U ι
  show wpAnyM _ _ _ _ _ _ _ _ _
  refine mix_quiet (Keeps.rx (w.heap.size + 2) none) 10 rfl (by kernel_rfl) rfl ?_
  intro ι U hne hU
  go_big_quiet_op
  clear hU hne U ι
  show wpAnyM _ _ _ _ _ _ _ _ _
  refine mix_quiet (Keeps.rx (w.heap.size + 2) none) 11 rfl (by kernel_rfl) rfl ?_
  intro ι U hne hU
  have hcw0 := fun ii => (RX.at (hU ii) z1 z1_b).cell 0 rfl
  have hcw1 := fun ii => (RX.at (hU ii) z1 z1_b).cell 1 rfl
  have hcw2 := fun ii => (RX.at (hU ii) z1 z1_b).cell 2 rfl
  have hcw3 := fun ii => (RX.at (hU ii) z1 z1_b).cell 3 rfl
  have hcw4 := fun ii => (RX.at (hU ii) z1 z1_b).cell 4 rfl
  have hcw5 := fun ii => (RX.at (hU ii) z1 z1_b).cell 5 rfl
  have hcw6 := fun ii => (RX.at (hU ii) z1 z1_b).cell 6 rfl
  have hcw7 := fun ii => (RX.at (hU ii) z1 z1_b).cell 7 rfl
  have hcw8 := fun ii => (RX.at (hU ii) z2 z2_b).cell 0 rfl
  have hcw9 := fun ii => (RX.at (hU ii) z2 z2_b).cell 1 rfl
  have hcw10 := fun ii => (RX.at (hU ii) z2 z2_b).cell 2 rfl
  have hcw11 := fun ii => (RX.at (hU ii) z2 z2_b).cell 3 rfl
  have hcw12 := fun ii => (RX.at (hU ii) z2 z2_b).cell 4 rfl
  have hcw13 := fun ii => (RX.at (hU ii) z2 z2_b).cell 5 rfl
  have hcw14 := fun ii => (RX.at (hU ii) z2 z2_b).cell 6 rfl
  have hcw15 := fun ii => (RX.at (hU ii) z2 z2_b).cell 7 rfl
  go_big_quiet_op
  clear hU hne hcw0 hcw1 hcw2 hcw3 hcw4 hcw5 hcw6 hcw7 hcw8 hcw9 hcw10 hcw11 hcw12 hcw13 hcw14 hcw15 U ι
  show wpAnyM _ _ _ _ _ _ _ _ _
  refine mix_quiet (Keeps.rx (w.heap.size + 2) none) 12 rfl (by kernel_rfl) rfl ?_
  intro ι U hne hU
  go_big_quiet_op
  clear hU hne U ι
  show wpAnyM _ _ _ _ _ _ _ _ _
  refine mix_quiet (Keeps.rx (w.heap.size + 2) none) 13 rfl (by kernel_rfl) rfl ?_
  intro ι U hne hU
  have hcw0 := fun ii => (RX.at (hU ii) z1 z1_b).cell 0 rfl
  have hcw1 := fun ii => (RX.at (hU ii) z1 z1_b).cell 1 rfl
  have hcw2 := fun ii => (RX.at (hU ii) z1 z1_b).cell 2 rfl
  have hcw3 := fun ii => (RX.at (hU ii) z1 z1_b).cell 3 rfl
  have hcw4 := fun ii => (RX.at (hU ii) z1 z1_b).cell 4 rfl
  have hcw5 := fun ii => (RX.at (hU ii) z1 z1_b).cell 5 rfl
  have hcw6 := fun ii => (RX.at (hU ii) z1 z1_b).cell 6 rfl
  have hcw7 := fun ii => (RX.at (hU ii) z1 z1_b).cell 7 rfl
  have hcw8 := fun ii => (RX.at (hU ii) z2 z2_b).cell 0 rfl
  have hcw9 := fun ii => (RX.at (hU ii) z2 z2_b).cell 1 rfl
  have hcw10 := fun ii => (RX.at (hU ii) z2 z2_b).cell 2 rfl
  have hcw11 := fun ii => (RX.at (hU ii) z2 z2_b).cell 3 rfl
  have hcw12 := fun ii => (RX.at (hU ii) z2 z2_b).cell 4 rfl
  have hcw13 := fun ii => (RX.at (hU ii) z2 z2_b).cell 5 rfl
  have hcw14 := fun ii => (RX.at (hU ii) z2 z2_b).cell 6 rfl
  have hcw15 := fun ii => (RX.at (hU ii) z2 z2_b).cell 7 rfl
  go_big_quiet_op
  clear hU hne hcw0 hcw1 hcw2 hcw3 hcw4 hcw5 hcw6 hcw7 hcw8 hcw9 hcw10 hcw11 hcw12 hcw13 hcw14 hcw15 U ι
  show wpAnyM _ _ _ _ _ _ _ _ _
  refine mix_quiet (Keeps.rx (w.heap.size + 2) none) 14 rfl (by kernel_rfl) rfl ?_
  intro ι U hne hU
  go_big_quiet_op
  clear hU hne U ι
  show wpAnyM _ _ _ _ _ _ _ _ _
  refine mix_quiet (Keeps.rx (w.heap.size + 2) none) 15 rfl (by kernel_rfl) rfl ?_
  intro ι U hne hU
  go_big_quiet_op
  clear hU hne U ι
  show wpAnyM _ _ _ _ _ _ _ _ _
  refine mix_quiet (Keeps.rx (w.heap.size + 2) none) 16 rfl (by kernel_rfl) rfl ?_
  intro ι U hne hU
  have hcw0 := fun ii => (RX.at (hU ii) z1 z1_b).cell 0 rfl
  have hcw1 := fun ii => (RX.at (hU ii) z1 z1_b).cell 1 rfl
  have hcw2 := fun ii => (RX.at (hU ii) z1 z1_b).cell 2 rfl
  have hcw3 := fun ii => (RX.at (hU ii) z1 z1_b).cell 3 rfl
  have hcw4 := fun ii => (RX.at (hU ii) z1 z1_b).cell 4 rfl
  have hcw5 := fun ii => (RX.at (hU ii) z1 z1_b).cell 5 rfl
  have hcw6 := fun ii => (RX.at (hU ii) z1 z1_b).cell 6 rfl
  have hcw7 := fun ii => (RX.at (hU ii) z1 z1_b).cell 7 rfl
  have hcw8 := fun ii => (RX.at (hU ii) z2 z2_b).cell 0 rfl
  have hcw9 := fun ii => (RX.at (hU ii) z2 z2_b).cell 1 rfl
  have hcw10 := fun ii => (RX.at (hU ii) z2 z2_b).cell 2 rfl
  have hcw11 := fun ii => (RX.at (hU ii) z2 z2_b).cell 3 rfl
  have hcw12 := fun ii => (RX.at (hU ii) z2 z2_b).cell 4 rfl
  have hcw13 := fun ii => (RX.at (hU ii) z2 z2_b).cell 5 rfl
  have hcw14 := fun ii => (RX.at (hU ii) z2 z2_b).cell 6 rfl
  have hcw15 := fun ii => (RX.at (hU ii) z2 z2_b).cell 7 rfl
  go_big_quiet_op
  clear hU hne hcw0 hcw1 hcw2 hcw3 hcw4 hcw5 hcw6 hcw7 hcw8 hcw9 hcw10 hcw11 hcw12 hcw13 hcw14 hcw15 U ι
  show wpAnyM _ _ _ _ _ _ _ _ _
  refine mix_quiet (Keeps.rx (w.heap.size + 2) none) 17 rfl (by kernel_rfl) rfl ?_
  intro ι U hne hU
  go_big_quiet_op
  clear hU hne U ι
  show wpAnyM _ _ _ _ _ _ _ _ _
  refine mix_quiet (Keeps.rx (w.heap.size + 2) none) 18 rfl (by kernel_rfl) rfl ?_
  intro ι U hne hU
  have hcw0 := fun ii => (RX.at (hU ii) z1 z1_b).cell 0 rfl
  have hcw1 := fun ii => (RX.at (hU ii) z1 z1_b).cell 1 rfl
  have hcw2 := fun ii => (RX.at (hU ii) z1 z1_b).cell 2 rfl
  have hcw3 := fun ii => (RX.at (hU ii) z1 z1_b).cell 3 rfl
  have hcw4 := fun ii => (RX.at (hU ii) z1 z1_b).cell 4 rfl
  have hcw5 := fun ii => (RX.at (hU ii) z1 z1_b).cell 5 rfl
  have hcw6 := fun ii => (RX.at (hU ii) z1 z1_b).cell 6 rfl
  have hcw7 := fun ii => (RX.at (hU ii) z1 z1_b).cell 7 rfl
  have hcw8 := fun ii => (RX.at (hU ii) z2 z2_b).cell 0 rfl
  have hcw9 := fun ii => (RX.at (hU ii) z2 z2_b).cell 1 rfl
  have hcw10 := fun ii => (RX.at (hU ii) z2 z2_b).cell 2 rfl
  have hcw11 := fun ii => (RX.at (hU ii) z2 z2_b).cell 3 rfl
  have hcw12 := fun ii => (RX.at (hU ii) z2 z2_b).cell 4 rfl
  have hcw13 := fun ii => (RX.at (hU ii) z2 z2_b).cell 5 rfl
  have hcw14 := fun ii => (RX.at (hU ii) z2 z2_b).cell 6 rfl
  have hcw15 := fun ii => (RX.at (hU ii) z2 z2_b).cell 7 rfl
  go_big_quiet_op
  clear hU hne hcw0 hcw1 hcw2 hcw3 hcw4 hcw5 hcw6 hcw7 hcw8 hcw9 hcw10 hcw11 hcw12 hcw13 hcw14 hcw15 U ι
  show wpAnyM _ _ _ _ _ _ _ _ _
  refine mix_quiet (Keeps.rx (w.heap.size + 2) none) 19 rfl (by kernel_rfl) rfl ?_
  intro ι U hne hU
  go_big_quiet_op
  clear hU hne U ι
  show wpAnyM _ _ _ _ _ _ _ _ _
  refine mix_any 4 rfl (by kernel_rfl) rfl ?_
  go_wp2_with (first | (at_make; refine Stop.un ?_) | (at_builtin; refine Stop.un ?_) | (with_reducible refine Stop.conv 40 9 ?_) | (with_reducible refine Stop.conv 9 40 ?_))
  refine (HC.out _).mono ?_
  rintro e wq1 ⟨rfl, bq1⟩
  go_wp2_with (first | (at_make; refine Stop.un ?_) | (at_builtin; refine Stop.un ?_) | (with_reducible refine Stop.conv 40 9 ?_) | (with_reducible refine Stop.conv 9 40 ?_))
  refine MixPost.mk (RX.ext bq1 (Hid.out HSZ)) ?_
  replace z1 := At.mono z1 bq1
  replace z2 := At.mono z2 bq1
  replace z3 := At.mono z3 bq1
  replace BB := Below.next BB bq1
  replace HSZ := Lib.hid (Nat.le_trans (Hid.out HSZ) (Below.size bq1))
  clear bq1
  refine mix_any 9 rfl (by kernel_rfl) rfl ?_
  go_wp2_with (first | (at_make; refine Stop.un ?_) | (at_builtin; refine Stop.un ?_) | (with_reducible refine Stop.conv 40 9 ?_) | (with_reducible refine Stop.conv 9 40 ?_))
  refine (HD.out _).mono ?_
  rintro e wq2 ⟨rfl, bq2⟩
  go_wp2_with (first | (at_make; refine Stop.un ?_) | (at_builtin; refine Stop.un ?_) | (with_reducible refine Stop.conv 40 9 ?_) | (with_reducible refine Stop.conv 9 40 ?_))
  refine MixPost.mk (RX.ext bq2 (Hid.out HSZ)) ?_
  replace z1 := At.mono z1 bq2
  replace z2 := At.mono z2 bq2
  replace z3 := At.mono z3 bq2
  replace BB := Below.next BB bq2
  replace HSZ := Lib.hid (Nat.le_trans (Hid.out HSZ) (Below.size bq2))
  clear bq2
  refine mix_quiet (Keeps.rx (w.heap.size + 2) none) 20 rfl (by kernel_rfl) rfl ?_
  intro ι U hne hU
  go_big_quiet_op
  clear hU hne U ι
  show wpAnyM _ _ _ _ _ _ _ _ _
  refine mix_any 21 rfl (by kernel_rfl) rfl ?_
  have fq0 := z3.free 0
  have gq0 := z3.cell 0 rfl
  have fq1 := z3.free 1
  have gq1 := z3.cell 1 rfl
  have fq2 := z3.free 2
  have gq2 := z3.cell 2 rfl
  have fq3 := z3.free 3
  have gq3 := z3.cell 3 rfl
  have fq4 := z3.free 4
  have gq4 := z3.cell 4 rfl
  have fq5 := z3.free 5
  have gq5 := z3.cell 5 rfl
  have fq6 := z3.free 6
  have gq6 := z3.cell 6 rfl
  have fq7 := z3.free 7
  have gq7 := z3.cell 7 rfl
  have lq := z3.lt
  go_wp2_with (first | (at_make; refine Stop.un ?_) | (at_builtin; refine Stop.un ?_) | (with_reducible refine Stop.conv 40 9 ?_) | (with_reducible refine Stop.conv 9 40 ?_))
  refine MixPost.mk (RX.set8 _ _ _ _ _ _ _ _ _  (by first | omega | (simp only [Nat.add_assoc] <;> omega))) ?_
  clear lq fq0 gq0 fq1 gq1 fq2 gq2 fq3 gq3 fq4 gq4 fq5 gq5 fq6 gq6 fq7 gq7
  refine mix_end (by kernel_rfl) ?_
  clear z1 z2 HSZ
  go_wp2_with (first | (at_make; refine Stop.un ?_) | (at_builtin; refine Stop.un ?_) | (with_reducible refine Stop.conv 40 9 ?_) | (with_reducible refine Stop.conv 9 40 ?_))
  have RQ := z3.set8 (.int .u8 k3) (.int .i64 n3) (.string s3) (.int .u8 k4) (.int .i64 n4) (.string s4) (.int .i64 (wrap64 (nu + nu2))) (.int .i64 (wrap64 (ma + ma2)))
  have rq0 := RQ.cell 0 rfl
  have rq1 := RQ.cell 1 rfl
  have rq2 := RQ.cell 2 rfl
  have rq3 := RQ.cell 3 rfl
  have rq4 := RQ.cell 4 rfl
  have rq5 := RQ.cell 5 rfl
  have rq6 := RQ.cell 6 rfl
  have rq7 := RQ.cell 7 rfl
  have rql := RQ.lt
  exact bodyPost_ret (v := .agg #[.int .u8 k3, .int .i64 n3, .string s3, .int .u8 k4, .int .i64 n4, .string s4, .int .i64 (wrap64 (nu + nu2)), .int .i64 (wrap64 (ma + ma2))]) (by simp [results, Try.results14, go_sem, rq0, rq1, rq2, rq3, rq4, rq5, rq6, rq7]) rfl ⟨rfl, below_set8 BB _ _ _ _ _ _ _ _  (by omega)⟩
end Go.Proofs.Ytdpmaocbfmgmlaa
