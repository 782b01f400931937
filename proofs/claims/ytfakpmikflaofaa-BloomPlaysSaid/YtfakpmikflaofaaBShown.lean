/- The head of all statements of layer 20. -/
import Derived.Test.YtfakpmikflaofaaBNew
set_option linter.unusedVariables false
set_option linter.unusedSimpArgs false
namespace Go.Proofs.Ytfakpmikflaofaa
open Go.RowKit
theorem putV_zero : putV V.zero = [0] := by
  have h : rightB V.zero = true := by simp [rightB, rightP, V.zero, emp_toList]
  have hc : canon V.zero = V.zero := by unfold canon; rw [if_pos h]
  unfold putV
  rw [hc]
  rfl
theorem plc_zero : plc V.zero 0 8 = 3 := by
  unfold plc hashV
  rw [putV_zero]
  decide +kernel
theorem add_zero8 : addB (zeros 8) V.zero 8 1 = [8] := by
  unfold addB zeros
  simp only [List.range_one, List.foldl_cons, List.foldl_nil, plc_zero]
  decide +kernel
theorem may_zero8 : mayB [8] V.zero 8 1 = true := by
  unfold mayB
  simp only [List.range_one, List.all_cons, List.all_nil, plc_zero]
  decide +kernel
set_option maxRecDepth 100000 in
set_option maxHeartbeats 4000000 in
theorem shown_any (w : World) : Calls Try.prog 8 #[] w (fun e w' => e = .returned (.bool true) ∧ Below w.heap.size w w') := by
  have h0 : okV V.zero := by unfold okV V.zero; decide
  go_enter Try.func8, Try.ntmps8
  go_wp2_with (first | (at_make; refine Stop.un ?_) | (at_builtin; refine Stop.un ?_) | (with_reducible refine Stop.conv 32 9 ?_) | (with_reducible refine Stop.conv 9 32 ?_))
  refine (new_any 8 1 _ (by decide) (by decide) (by decide) (by decide)).mono ?_
  rintro e w1 ⟨g, b, rfl, hg, hb, hF, b1⟩
  go_wp2_with (first | (at_make; refine Stop.un ?_) | (at_builtin; refine Stop.un ?_) | (with_reducible refine Stop.conv 32 9 ?_) | (with_reducible refine Stop.conv 9 32 ?_))
  refine (add_any V.zero 8 1 g b (zeros 8) _ hF h0 (by decide) (by decide) (by decide) (zeros_length 8)).mono ?_
  rw [add_zero8]
  rintro e w2 ⟨rfl, hF2, hX⟩
  have b2 : Below w.heap.size w w2 := b1.trans (hX.below_of b1.size hb)
  clear hF hX b1
  go_wp2_with (first | (at_make; refine Stop.un ?_) | (at_builtin; refine Stop.un ?_) | (with_reducible refine Stop.conv 32 9 ?_) | (with_reducible refine Stop.conv 9 32 ?_))
  refine (bits_any 8 1 g b [8] _ hF2 (by decide)).mono ?_
  rintro e w3 ⟨a3, n3, c3, h3, rfl, o3⟩
  have hn3 : n3 = 1 := h3.symm
  subst hn3
  have cs3 := Own.cs o3
  have le3 := owns_le o3.1
  replace hF2 := hF2.mono (Own.below o3)
  replace b2 := b2.next (Own.below o3)
  obtain ⟨q, o, rfl⟩ := cs3.addr (by decide)
  have x0 : w3.cell? ⟨q, o, none⟩ = some (.int .u8 8) := cs3.at (j := 0) rfl
  clear h3 o3 cs3
  go_wp2_with (first | (at_make; refine Stop.un ?_) | (at_builtin; refine Stop.un ?_) | (with_reducible refine Stop.conv 32 9 ?_) | (with_reducible refine Stop.conv 9 32 ?_))
  refine mix_startE 31 rfl (by kernel_rfl) ?_
  intro xq hxq
  replace x0 := Ext.cell hxq x0
  replace hF2 := Flt.mono hF2 hxq
  replace b2 := Below.next b2 hxq
  clear hxq
  refine mix_quiet Keeps.ext 0 rfl (by kernel_rfl) rfl ?_
  intro ι U hne hU
  go_big_quiet_op
  clear hU hne U ι
  show wpAnyM _ _ _ _ _ _ _ _ _
  refine mix_quiet Keeps.ext 1 rfl (by kernel_rfl) rfl ?_
  intro ι U hne hU
  go_big_quiet_op
  clear hU hne U ι
  show wpAnyM _ _ _ _ _ _ _ _ _
  refine mix_quiet Keeps.ext 2 rfl (by kernel_rfl) rfl ?_
  intro ι U hne hU
  go_big_quiet_op
  clear hU hne U ι
  show wpAnyM _ _ _ _ _ _ _ _ _
  refine mix_quiet Keeps.ext 3 rfl (by kernel_rfl) rfl ?_
  intro ι U hne hU
  go_big_quiet_op
  clear hU hne U ι
  show wpAnyM _ _ _ _ _ _ _ _ _
  refine mix_quiet Keeps.ext 4 rfl (by kernel_rfl) rfl ?_
  intro ι U hne hU
  go_big_quiet_op
  clear hU hne U ι
  show wpAnyM _ _ _ _ _ _ _ _ _
  refine mix_quiet Keeps.ext 5 rfl (by kernel_rfl) rfl ?_
  intro ι U hne hU
  go_big_quiet_op
  clear hU hne U ι
  show wpAnyM _ _ _ _ _ _ _ _ _
  refine mix_quiet Keeps.ext 6 rfl (by kernel_rfl) rfl ?_
  intro ι U hne hU
  have hcw0 := fun ii => (hU ii).cell x0
  go_big_quiet_op
  clear hU hne hcw0 U ι
  show wpAnyM _ _ _ _ _ _ _ _ _
  refine mix_quiet Keeps.ext 7 rfl (by kernel_rfl) rfl ?_
  intro ι U hne hU
  go_big_quiet_op
  clear hU hne U ι
  show wpAnyM _ _ _ _ _ _ _ _ _
  refine mix_quiet Keeps.ext 8 rfl (by kernel_rfl) rfl ?_
  intro ι U hne hU
  go_big_quiet_op
  clear hU hne U ι
  show wpAnyM _ _ _ _ _ _ _ _ _
  refine mix_quiet Keeps.ext 9 rfl (by kernel_rfl) rfl ?_
  intro ι U hne hU
  have hcw0 := fun ii => (hU ii).cell x0
  go_big_quiet_op
  clear hU hne hcw0 U ι
  show wpAnyM _ _ _ _ _ _ _ _ _
  refine mix_quiet Keeps.ext 10 rfl (by kernel_rfl) rfl ?_
  intro ι U hne hU
  go_big_quiet_op
  clear hU hne U ι
  show wpAnyM _ _ _ _ _ _ _ _ _
  refine mix_quiet Keeps.ext 11 rfl (by kernel_rfl) rfl ?_
  intro ι U hne hU
  go_big_quiet_op
  clear hU hne U ι
  show wpAnyM _ _ _ _ _ _ _ _ _
  refine mix_quiet Keeps.ext 12 rfl (by kernel_rfl) rfl ?_
  intro ι U hne hU
  go_big_quiet_op
  clear hU hne U ι
  show wpAnyM _ _ _ _ _ _ _ _ _
  refine mix_quiet Keeps.ext 13 rfl (by kernel_rfl) rfl ?_
  intro ι U hne hU
  go_big_quiet_op
  clear hU hne U ι
  show wpAnyM _ _ _ _ _ _ _ _ _
  refine mix_quiet Keeps.ext 14 rfl (by kernel_rfl) rfl ?_
  intro ι U hne hU
  go_big_quiet_op
  clear hU hne U ι
  show wpAnyM _ _ _ _ _ _ _ _ _
  refine mix_quiet Keeps.ext 15 rfl (by kernel_rfl) rfl ?_
  intro ι U hne hU
  go_big_quiet_op
  clear hU hne U ι
  show wpAnyM _ _ _ _ _ _ _ _ _
  refine mix_quiet Keeps.ext 16 rfl (by kernel_rfl) rfl ?_
  intro ι U hne hU
  go_big_quiet_op
  clear hU hne U ι
  show wpAnyM _ _ _ _ _ _ _ _ _
  refine mix_quiet Keeps.ext 17 rfl (by kernel_rfl) rfl ?_
  intro ι U hne hU
  have hcw0 := fun ii => (hU ii).cell x0
  go_big_quiet_op
  clear hU hne hcw0 U ι
  show wpAnyM _ _ _ _ _ _ _ _ _
  refine mix_quiet Keeps.ext 18 rfl (by kernel_rfl) rfl ?_
  intro ι U hne hU
  go_big_quiet_op
  clear hU hne U ι
  show wpAnyM _ _ _ _ _ _ _ _ _
  refine mix_quiet Keeps.ext 19 rfl (by kernel_rfl) rfl ?_
  intro ι U hne hU
  go_big_quiet_op
  clear hU hne U ι
  show wpAnyM _ _ _ _ _ _ _ _ _
  refine mix_quiet Keeps.ext 20 rfl (by kernel_rfl) rfl ?_
  intro ι U hne hU
  go_big_quiet_op
  clear hU hne U ι
  show wpAnyM _ _ _ _ _ _ _ _ _
  refine mix_quiet Keeps.ext 21 rfl (by kernel_rfl) rfl ?_
  intro ι U hne hU
  go_big_quiet_op
  clear hU hne U ι
  show wpAnyM _ _ _ _ _ _ _ _ _
  refine mix_quiet Keeps.ext 22 rfl (by kernel_rfl) rfl ?_
  intro ι U hne hU
  go_big_quiet_op
  clear hU hne U ι
  show wpAnyM _ _ _ _ _ _ _ _ _
  refine mix_any 23 rfl (by kernel_rfl) rfl ?_
  go_wp2_with (first | (at_make; refine Stop.un ?_) | (at_builtin; refine Stop.un ?_) | (with_reducible refine Stop.conv 32 9 ?_) | (with_reducible refine Stop.conv 9 32 ?_))
  refine (may_any V.zero 8 1 g b [8] _ hF2 h0 (by decide) (by decide) (by decide) rfl).mono ?_
  rw [may_zero8]
  rintro e wq1 ⟨rfl, bq1⟩
  go_wp2_with (first | (at_make; refine Stop.un ?_) | (at_builtin; refine Stop.un ?_) | (with_reducible refine Stop.conv 32 9 ?_) | (with_reducible refine Stop.conv 9 32 ?_))
  refine MixPost.mk bq1 ?_
  replace x0 := Ext.cell bq1 x0
  replace hF2 := Flt.mono hF2 bq1
  replace b2 := Below.next b2 bq1
  clear bq1
  refine mix_quiet Keeps.ext 24 rfl (by kernel_rfl) rfl ?_
  intro ι U hne hU
  go_big_quiet_op
  clear hU hne U ι
  show wpAnyM _ _ _ _ _ _ _ _ _
  refine mix_quiet Keeps.ext 25 rfl (by kernel_rfl) rfl ?_
  intro ι U hne hU
  go_big_quiet_op
  clear hU hne U ι
  show wpAnyM _ _ _ _ _ _ _ _ _
  refine mix_quiet Keeps.ext 26 rfl (by kernel_rfl) rfl ?_
  intro ι U hne hU
  go_big_quiet_op
  clear hU hne U ι
  show wpAnyM _ _ _ _ _ _ _ _ _
  refine mix_quiet Keeps.ext 27 rfl (by kernel_rfl) rfl ?_
  intro ι U hne hU
  go_big_quiet_op
  clear hU hne U ι
  show wpAnyM _ _ _ _ _ _ _ _ _
  refine mix_any 28 rfl (by kernel_rfl) rfl ?_
  go_wp2_with (first | (at_make; refine Stop.un ?_) | (at_builtin; refine Stop.un ?_) | (with_reducible refine Stop.conv 32 9 ?_) | (with_reducible refine Stop.conv 9 32 ?_))
  refine (may_nil ⟨2, 5, ByteArray.empty⟩ _).mono ?_
  rintro e wq2 ⟨rfl, bq2⟩
  go_wp2_with (first | (at_make; refine Stop.un ?_) | (at_builtin; refine Stop.un ?_) | (with_reducible refine Stop.conv 32 9 ?_) | (with_reducible refine Stop.conv 9 32 ?_))
  refine MixPost.mk bq2 ?_
  replace x0 := Ext.cell bq2 x0
  replace hF2 := Flt.mono hF2 bq2
  replace b2 := Below.next b2 bq2
  clear bq2
  refine mix_quiet Keeps.ext 29 rfl (by kernel_rfl) rfl ?_
  intro ι U hne hU
  go_big_quiet_op
  clear hU hne U ι
  show wpAnyM _ _ _ _ _ _ _ _ _
  refine mix_quiet Keeps.ext 30 rfl (by kernel_rfl) rfl ?_
  intro ι U hne hU
  go_big_quiet_op
  clear hU hne U ι
  show wpAnyM _ _ _ _ _ _ _ _ _
  refine mix_end (by kernel_rfl) ?_
  go_wp2_with (first | (at_make; refine Stop.un ?_) | (at_builtin; refine Stop.un ?_) | (with_reducible refine Stop.conv 32 9 ?_) | (with_reducible refine Stop.conv 9 32 ?_))
  go_ret
  exact ⟨rfl, b2⟩
end Go.Proofs.Ytfakpmikflaofaa
