/- CellTells. -/
import Derived.Test.YtbikcjjbdgmhpaaForms
import Derived.Test.YtbikcjjbdgmhpaaShown4
set_option linter.unusedVariables false
namespace Go.Proofs.Ytbikcjjbdgmhpaa
open Go.RowKit
set_option maxRecDepth 100000 in
set_option maxHeartbeats 4000000 in
theorem cellTells_any (a b : V) (w : World) (ha : a.s.size ≤ maxLen) (hb : b.s.size ≤ maxLen) :
    Calls Try.prog 7 #[a.val, b.val] w (fun e w' => e = .returned (.bool true) ∧ Below w.heap.size w w') := by
  obtain ⟨k, n, s⟩ := a
  obtain ⟨k', n', s'⟩ := b
  have hlt : ∀ (x y : V), (0 : Int) + cmpV x y = cmpV x y := fun x y => by omega
  clear hlt
  unfold maxLen at ha hb
  simp only [V.val] at ha hb ⊢
  by_cases hlong : 3000 < s.size ∨ 3000 < s'.size
  · go_enter Try.func7, Try.ntmps7
    go_wp2_with (first | (at_make; refine Stop.un ?_) | (at_builtin; refine Stop.un ?_) | (with_reducible refine Stop.conv 33 9 ?_) | (with_reducible refine Stop.conv 9 33 ?_))
    refine (shown_any _).mono ?_
    rintro e w1 ⟨rfl, b1⟩
    obtain ⟨e0, e1, e2, hz⟩ := (((VAt.new w ⟨k, n, s⟩).mono ((Below.refl _ _).alloc (Nat.le_refl _) _)).mono b1).open_
    obtain ⟨e3, e4, e5, hz'⟩ := ((VAt.new (w.alloc (.cells #[.int .u8 k, .int .i64 n, .string s] 23)) ⟨k', n', s'⟩).mono b1).open_
    have B := (((Below.refl w.heap.size w).alloc (Nat.le_refl _) _).alloc (by simp) _).next b1
    simp only [World.size_alloc] at e3 e4 e5 hz'
    clear b1
    rcases hlong with hl | hl
    · have hl' : (3000 : Int) < s.size := by omega
      go_wp2_with (first | (at_make; refine Stop.un ?_) | (at_builtin; refine Stop.un ?_) | (with_reducible refine Stop.conv 33 9 ?_) | (with_reducible refine Stop.conv 9 33 ?_))
      go_ret
      exact ⟨rfl, B⟩
    · have hl' : (3000 : Int) < s'.size := by omega
      go_wp2_with (first | (at_make; refine Stop.un ?_) | (at_builtin; refine Stop.un ?_) | (with_reducible refine Stop.conv 33 9 ?_) | (with_reducible refine Stop.conv 9 33 ?_))
      all_goals go_ret
      all_goals exact ⟨rfl, B⟩
  · have h1 : s.size ≤ 3000 := by omega
    have h2 : s'.size ≤ 3000 := by omega
    clear hlong ha hb
    go_enter Try.func7, Try.ntmps7
    go_wp2_with (first | (at_make; refine Stop.un ?_) | (at_builtin; refine Stop.un ?_) | (with_reducible refine Stop.conv 33 9 ?_) | (with_reducible refine Stop.conv 9 33 ?_))
    refine (shown_any _).mono ?_
    rintro e w1 ⟨rfl, b1⟩
    obtain ⟨e0, e1, e2, hz⟩ := (((VAt.new w ⟨k, n, s⟩).mono ((Below.refl _ _).alloc (Nat.le_refl _) _)).mono b1).open_
    obtain ⟨e3, e4, e5, hz'⟩ := ((VAt.new (w.alloc (.cells #[.int .u8 k, .int .i64 n, .string s] 23)) ⟨k', n', s'⟩).mono b1).open_
    have B := (((Below.refl w.heap.size w).alloc (Nat.le_refl _) _).alloc (by simp) _).next b1
    simp only [World.size_alloc] at e3 e4 e5 hz'
    clear b1
    go_wp2_with (first | (at_make; refine Stop.un ?_) | (at_builtin; refine Stop.un ?_) | (with_reducible refine Stop.conv 33 9 ?_) | (with_reducible refine Stop.conv 9 33 ?_))
    refine mix_startE 36 rfl (by kernel_rfl) ?_
    intro xq hxq
    replace e0 := Ext.cell hxq e0
    replace e1 := Ext.cell hxq e1
    replace e2 := Ext.cell hxq e2
    replace e3 := Ext.cell hxq e3
    replace e4 := Ext.cell hxq e4
    replace e5 := Ext.cell hxq e5
    replace B := Below.next B hxq
    clear hxq
    refine mix_quiet Keeps.ext 0 rfl (by kernel_rfl) rfl ?_
    intro ι U hne hU
    go_big_quiet_op
    clear hU hne U ι
    show wpAnyM _ _ _ _ _ _ _ _ _
    refine mix_quiet Keeps.ext 1 rfl (by kernel_rfl) rfl ?_
    intro ι U hne hU
    go_big_quiet_op
    clear hU hne U ι
    show wpAnyM _ _ _ _ _ _ _ _ _
    refine mix_quiet Keeps.ext 2 rfl (by kernel_rfl) rfl ?_
    intro ι U hne hU
    have hcw0 := fun ii => (hU ii).cell e0
    have hcw1 := fun ii => (hU ii).cell e1
    have hcw2 := fun ii => (hU ii).cell e2
    have hcw3 := fun ii => (hU ii).cell e3
    have hcw4 := fun ii => (hU ii).cell e4
    have hcw5 := fun ii => (hU ii).cell e5
    go_big_quiet_op
    clear hU hne hcw0 hcw1 hcw2 hcw3 hcw4 hcw5 U ι
    show wpAnyM _ _ _ _ _ _ _ _ _
    refine mix_quiet Keeps.ext 4 rfl (by kernel_rfl) rfl ?_
    intro ι U hne hU
    have hcw0 := fun ii => (hU ii).cell e0
    have hcw1 := fun ii => (hU ii).cell e1
    have hcw2 := fun ii => (hU ii).cell e2
    have hcw3 := fun ii => (hU ii).cell e3
    have hcw4 := fun ii => (hU ii).cell e4
    have hcw5 := fun ii => (hU ii).cell e5
    go_big_quiet_op
    clear hU hne hcw0 hcw1 hcw2 hcw3 hcw4 hcw5 U ι
    show wpAnyM _ _ _ _ _ _ _ _ _
    refine mix_any 3 rfl (by kernel_rfl) rfl ?_
    go_wp2_with (first | (at_make; refine Stop.un ?_) | (at_builtin; refine Stop.un ?_) | (with_reducible refine Stop.conv 33 9 ?_) | (with_reducible refine Stop.conv 9 33 ?_))
    refine (right_x _ _ _ _).mono ?_
    rintro e wq1 ⟨rfl, bq1⟩
    go_wp2_with (first | (at_make; refine Stop.un ?_) | (at_builtin; refine Stop.un ?_) | (with_reducible refine Stop.conv 33 9 ?_) | (with_reducible refine Stop.conv 9 33 ?_))
    refine MixPost.mk bq1 ?_
    replace e0 := Ext.cell bq1 e0
    replace e1 := Ext.cell bq1 e1
    replace e2 := Ext.cell bq1 e2
    replace e3 := Ext.cell bq1 e3
    replace e4 := Ext.cell bq1 e4
    replace e5 := Ext.cell bq1 e5
    replace B := Below.next B bq1
    clear bq1
    refine mix_any 5 rfl (by kernel_rfl) rfl ?_
    go_wp2_with (first | (at_make; refine Stop.un ?_) | (at_builtin; refine Stop.un ?_) | (with_reducible refine Stop.conv 33 9 ?_) | (with_reducible refine Stop.conv 9 33 ?_))
    refine (rright_x _ _ _ _).mono ?_
    rintro e wq2 ⟨rfl, bq2⟩
    go_wp2_with (first | (at_make; refine Stop.un ?_) | (at_builtin; refine Stop.un ?_) | (with_reducible refine Stop.conv 33 9 ?_) | (with_reducible refine Stop.conv 9 33 ?_))
    refine MixPost.mk bq2 ?_
    replace e0 := Ext.cell bq2 e0
    replace e1 := Ext.cell bq2 e1
    replace e2 := Ext.cell bq2 e2
    replace e3 := Ext.cell bq2 e3
    replace e4 := Ext.cell bq2 e4
    replace e5 := Ext.cell bq2 e5
    replace B := Below.next B bq2
    clear bq2
    refine mix_quiet Keeps.ext 6 rfl (by kernel_rfl) rfl ?_
    intro ι U hne hU
    go_big_quiet_op
    clear hU hne U ι
    show wpAnyM _ _ _ _ _ _ _ _ _
    refine mix_quiet Keeps.ext 7 rfl (by kernel_rfl) rfl ?_
    intro ι U hne hU
    go_big_quiet_op
    clear hU hne U ι
    show wpAnyM _ _ _ _ _ _ _ _ _
    refine mix_quiet Keeps.ext 8 rfl (by kernel_rfl) rfl ?_
    intro ι U hne hU
    go_big_quiet_op
    clear hU hne U ι
    show wpAnyM _ _ _ _ _ _ _ _ _
    refine mix_quiet Keeps.ext 9 rfl (by kernel_rfl) rfl ?_
    intro ι U hne hU
    have hcw0 := fun ii => (hU ii).cell e0
    have hcw1 := fun ii => (hU ii).cell e1
    have hcw2 := fun ii => (hU ii).cell e2
    have hcw3 := fun ii => (hU ii).cell e3
    have hcw4 := fun ii => (hU ii).cell e4
    have hcw5 := fun ii => (hU ii).cell e5
    go_big_quiet_op
    clear hU hne hcw0 hcw1 hcw2 hcw3 hcw4 hcw5 U ι
    show wpAnyM _ _ _ _ _ _ _ _ _
    refine mix_quiet Keeps.ext 10 rfl (by kernel_rfl) rfl ?_
    intro ι U hne hU
    have hcw0 := fun ii => (hU ii).cell e0
    have hcw1 := fun ii => (hU ii).cell e1
    have hcw2 := fun ii => (hU ii).cell e2
    have hcw3 := fun ii => (hU ii).cell e3
    have hcw4 := fun ii => (hU ii).cell e4
    have hcw5 := fun ii => (hU ii).cell e5
    go_big_quiet_op
    clear hU hne hcw0 hcw1 hcw2 hcw3 hcw4 hcw5 U ι
    show wpAnyM _ _ _ _ _ _ _ _ _
    refine mix_quiet Keeps.ext 12 rfl (by kernel_rfl) rfl ?_
    intro ι U hne hU
    have hcw0 := fun ii => (hU ii).cell e0
    have hcw1 := fun ii => (hU ii).cell e1
    have hcw2 := fun ii => (hU ii).cell e2
    have hcw3 := fun ii => (hU ii).cell e3
    have hcw4 := fun ii => (hU ii).cell e4
    have hcw5 := fun ii => (hU ii).cell e5
    go_big_quiet_op
    clear hU hne hcw0 hcw1 hcw2 hcw3 hcw4 hcw5 U ι
    show wpAnyM _ _ _ _ _ _ _ _ _
    refine mix_quiet Keeps.ext 13 rfl (by kernel_rfl) rfl ?_
    intro ι U hne hU
    have hcw0 := fun ii => (hU ii).cell e0
    have hcw1 := fun ii => (hU ii).cell e1
    have hcw2 := fun ii => (hU ii).cell e2
    have hcw3 := fun ii => (hU ii).cell e3
    have hcw4 := fun ii => (hU ii).cell e4
    have hcw5 := fun ii => (hU ii).cell e5
    go_big_quiet_op
    clear hU hne hcw0 hcw1 hcw2 hcw3 hcw4 hcw5 U ι
    show wpAnyM _ _ _ _ _ _ _ _ _
    refine mix_any 11 rfl (by kernel_rfl) rfl ?_
    go_wp2_with (first | (at_make; refine Stop.un ?_) | (at_builtin; refine Stop.un ?_) | (with_reducible refine Stop.conv 33 9 ?_) | (with_reducible refine Stop.conv 9 33 ?_))
    refine (compare_x _ _ _ _ _ _ _).mono ?_
    rintro e wq3 ⟨rfl, bq3⟩
    go_wp2_with (first | (at_make; refine Stop.un ?_) | (at_builtin; refine Stop.un ?_) | (with_reducible refine Stop.conv 33 9 ?_) | (with_reducible refine Stop.conv 9 33 ?_))
    refine MixPost.mk bq3 ?_
    replace e0 := Ext.cell bq3 e0
    replace e1 := Ext.cell bq3 e1
    replace e2 := Ext.cell bq3 e2
    replace e3 := Ext.cell bq3 e3
    replace e4 := Ext.cell bq3 e4
    replace e5 := Ext.cell bq3 e5
    replace B := Below.next B bq3
    clear bq3
    refine mix_any 14 rfl (by kernel_rfl) rfl ?_
    go_wp2_with (first | (at_make; refine Stop.un ?_) | (at_builtin; refine Stop.un ?_) | (with_reducible refine Stop.conv 33 9 ?_) | (with_reducible refine Stop.conv 9 33 ?_))
    refine (rcompare_x _ _ _ _ _ _ _).mono ?_
    rintro e wq4 ⟨rfl, bq4⟩
    go_wp2_with (first | (at_make; refine Stop.un ?_) | (at_builtin; refine Stop.un ?_) | (with_reducible refine Stop.conv 33 9 ?_) | (with_reducible refine Stop.conv 9 33 ?_))
    refine MixPost.mk bq4 ?_
    replace e0 := Ext.cell bq4 e0
    replace e1 := Ext.cell bq4 e1
    replace e2 := Ext.cell bq4 e2
    replace e3 := Ext.cell bq4 e3
    replace e4 := Ext.cell bq4 e4
    replace e5 := Ext.cell bq4 e5
    replace B := Below.next B bq4
    clear bq4
    refine mix_quiet Keeps.ext 15 rfl (by kernel_rfl) rfl ?_
    intro ι U hne hU
    go_big_quiet_op
    clear hU hne U ι
    show wpAnyM _ _ _ _ _ _ _ _ _
    refine mix_quiet Keeps.ext 16 rfl (by kernel_rfl) rfl ?_
    intro ι U hne hU
    go_big_quiet_op
    clear hU hne U ι
    show wpAnyM _ _ _ _ _ _ _ _ _
    refine mix_quiet Keeps.ext 17 rfl (by kernel_rfl) rfl ?_
    intro ι U hne hU
    go_big_quiet_op
    clear hU hne U ι
    show wpAnyM _ _ _ _ _ _ _ _ _
    refine mix_quiet Keeps.ext 18 rfl (by kernel_rfl) rfl ?_
    intro ι U hne hU
    have hcw0 := fun ii => (hU ii).cell e0
    have hcw1 := fun ii => (hU ii).cell e1
    have hcw2 := fun ii => (hU ii).cell e2
    have hcw3 := fun ii => (hU ii).cell e3
    have hcw4 := fun ii => (hU ii).cell e4
    have hcw5 := fun ii => (hU ii).cell e5
    go_big_quiet_op
    clear hU hne hcw0 hcw1 hcw2 hcw3 hcw4 hcw5 U ι
    show wpAnyM _ _ _ _ _ _ _ _ _
    refine mix_quiet Keeps.ext 19 rfl (by kernel_rfl) rfl ?_
    intro ι U hne hU
    have hcw0 := fun ii => (hU ii).cell e0
    have hcw1 := fun ii => (hU ii).cell e1
    have hcw2 := fun ii => (hU ii).cell e2
    have hcw3 := fun ii => (hU ii).cell e3
    have hcw4 := fun ii => (hU ii).cell e4
    have hcw5 := fun ii => (hU ii).cell e5
    go_big_quiet_op
    clear hU hne hcw0 hcw1 hcw2 hcw3 hcw4 hcw5 U ι
    show wpAnyM _ _ _ _ _ _ _ _ _
    refine mix_quiet Keeps.ext 21 rfl (by kernel_rfl) rfl ?_
    intro ι U hne hU
    have hcw0 := fun ii => (hU ii).cell e0
    have hcw1 := fun ii => (hU ii).cell e1
    have hcw2 := fun ii => (hU ii).cell e2
    have hcw3 := fun ii => (hU ii).cell e3
    have hcw4 := fun ii => (hU ii).cell e4
    have hcw5 := fun ii => (hU ii).cell e5
    go_big_quiet_op
    clear hU hne hcw0 hcw1 hcw2 hcw3 hcw4 hcw5 U ι
    show wpAnyM _ _ _ _ _ _ _ _ _
    refine mix_quiet Keeps.ext 22 rfl (by kernel_rfl) rfl ?_
    intro ι U hne hU
    have hcw0 := fun ii => (hU ii).cell e0
    have hcw1 := fun ii => (hU ii).cell e1
    have hcw2 := fun ii => (hU ii).cell e2
    have hcw3 := fun ii => (hU ii).cell e3
    have hcw4 := fun ii => (hU ii).cell e4
    have hcw5 := fun ii => (hU ii).cell e5
    go_big_quiet_op
    clear hU hne hcw0 hcw1 hcw2 hcw3 hcw4 hcw5 U ι
    show wpAnyM _ _ _ _ _ _ _ _ _
    refine mix_any 20 rfl (by kernel_rfl) rfl ?_
    go_wp2_with (first | (at_make; refine Stop.un ?_) | (at_builtin; refine Stop.un ?_) | (with_reducible refine Stop.conv 33 9 ?_) | (with_reducible refine Stop.conv 9 33 ?_))
    refine (equal_x _ _ _ _ _ _ _).mono ?_
    rintro e wq5 ⟨rfl, bq5⟩
    go_wp2_with (first | (at_make; refine Stop.un ?_) | (at_builtin; refine Stop.un ?_) | (with_reducible refine Stop.conv 33 9 ?_) | (with_reducible refine Stop.conv 9 33 ?_))
    refine MixPost.mk bq5 ?_
    replace e0 := Ext.cell bq5 e0
    replace e1 := Ext.cell bq5 e1
    replace e2 := Ext.cell bq5 e2
    replace e3 := Ext.cell bq5 e3
    replace e4 := Ext.cell bq5 e4
    replace e5 := Ext.cell bq5 e5
    replace B := Below.next B bq5
    clear bq5
    refine mix_any 23 rfl (by kernel_rfl) rfl ?_
    go_wp2_with (first | (at_make; refine Stop.un ?_) | (at_builtin; refine Stop.un ?_) | (with_reducible refine Stop.conv 33 9 ?_) | (with_reducible refine Stop.conv 9 33 ?_))
    refine (requal_x _ _ _ _ _ _ _).mono ?_
    rintro e wq6 ⟨rfl, bq6⟩
    go_wp2_with (first | (at_make; refine Stop.un ?_) | (at_builtin; refine Stop.un ?_) | (with_reducible refine Stop.conv 33 9 ?_) | (with_reducible refine Stop.conv 9 33 ?_))
    refine MixPost.mk bq6 ?_
    replace e0 := Ext.cell bq6 e0
    replace e1 := Ext.cell bq6 e1
    replace e2 := Ext.cell bq6 e2
    replace e3 := Ext.cell bq6 e3
    replace e4 := Ext.cell bq6 e4
    replace e5 := Ext.cell bq6 e5
    replace B := Below.next B bq6
    clear bq6
    refine mix_quiet Keeps.ext 24 rfl (by kernel_rfl) rfl ?_
    intro ι U hne hU
    go_big_quiet_op
    clear hU hne U ι
    show wpAnyM _ _ _ _ _ _ _ _ _
    refine mix_quiet Keeps.ext 25 rfl (by kernel_rfl) rfl ?_
    intro ι U hne hU
    go_big_quiet_op
    clear hU hne U ι
    show wpAnyM _ _ _ _ _ _ _ _ _
    refine mix_quiet Keeps.ext 26 rfl (by kernel_rfl) rfl ?_
    intro ι U hne hU
    go_big_quiet_op
    clear hU hne U ι
    show wpAnyM _ _ _ _ _ _ _ _ _
    refine mix_quiet Keeps.ext 27 rfl (by kernel_rfl) rfl ?_
    intro ι U hne hU
    have hcw0 := fun ii => (hU ii).cell e0
    have hcw1 := fun ii => (hU ii).cell e1
    have hcw2 := fun ii => (hU ii).cell e2
    have hcw3 := fun ii => (hU ii).cell e3
    have hcw4 := fun ii => (hU ii).cell e4
    have hcw5 := fun ii => (hU ii).cell e5
    go_big_quiet_op
    clear hU hne hcw0 hcw1 hcw2 hcw3 hcw4 hcw5 U ι
    show wpAnyM _ _ _ _ _ _ _ _ _
    refine mix_quiet Keeps.ext 28 rfl (by kernel_rfl) rfl ?_
    intro ι U hne hU
    have hcw0 := fun ii => (hU ii).cell e0
    have hcw1 := fun ii => (hU ii).cell e1
    have hcw2 := fun ii => (hU ii).cell e2
    have hcw3 := fun ii => (hU ii).cell e3
    have hcw4 := fun ii => (hU ii).cell e4
    have hcw5 := fun ii => (hU ii).cell e5
    go_big_quiet_op
    clear hU hne hcw0 hcw1 hcw2 hcw3 hcw4 hcw5 U ι
    show wpAnyM _ _ _ _ _ _ _ _ _
    refine mix_quiet Keeps.ext 30 rfl (by kernel_rfl) rfl ?_
    intro ι U hne hU
    have hcw0 := fun ii => (hU ii).cell e0
    have hcw1 := fun ii => (hU ii).cell e1
    have hcw2 := fun ii => (hU ii).cell e2
    have hcw3 := fun ii => (hU ii).cell e3
    have hcw4 := fun ii => (hU ii).cell e4
    have hcw5 := fun ii => (hU ii).cell e5
    go_big_quiet_op
    clear hU hne hcw0 hcw1 hcw2 hcw3 hcw4 hcw5 U ι
    show wpAnyM _ _ _ _ _ _ _ _ _
    refine mix_quiet Keeps.ext 31 rfl (by kernel_rfl) rfl ?_
    intro ι U hne hU
    have hcw0 := fun ii => (hU ii).cell e0
    have hcw1 := fun ii => (hU ii).cell e1
    have hcw2 := fun ii => (hU ii).cell e2
    have hcw3 := fun ii => (hU ii).cell e3
    have hcw4 := fun ii => (hU ii).cell e4
    have hcw5 := fun ii => (hU ii).cell e5
    go_big_quiet_op
    clear hU hne hcw0 hcw1 hcw2 hcw3 hcw4 hcw5 U ι
    show wpAnyM _ _ _ _ _ _ _ _ _
    refine mix_any 29 rfl (by kernel_rfl) rfl ?_
    go_wp2_with (first | (at_make; refine Stop.un ?_) | (at_builtin; refine Stop.un ?_) | (with_reducible refine Stop.conv 33 9 ?_) | (with_reducible refine Stop.conv 9 33 ?_))
    refine (less_x _ _ _ _ _ _ _).mono ?_
    rintro e wq7 ⟨rfl, bq7⟩
    go_wp2_with (first | (at_make; refine Stop.un ?_) | (at_builtin; refine Stop.un ?_) | (with_reducible refine Stop.conv 33 9 ?_) | (with_reducible refine Stop.conv 9 33 ?_))
    refine MixPost.mk bq7 ?_
    replace e0 := Ext.cell bq7 e0
    replace e1 := Ext.cell bq7 e1
    replace e2 := Ext.cell bq7 e2
    replace e3 := Ext.cell bq7 e3
    replace e4 := Ext.cell bq7 e4
    replace e5 := Ext.cell bq7 e5
    replace B := Below.next B bq7
    clear bq7
    refine mix_any 32 rfl (by kernel_rfl) rfl ?_
    go_wp2_with (first | (at_make; refine Stop.un ?_) | (at_builtin; refine Stop.un ?_) | (with_reducible refine Stop.conv 33 9 ?_) | (with_reducible refine Stop.conv 9 33 ?_))
    refine (rless_x _ _ _ _ _ _ _).mono ?_
    rintro e wq8 ⟨rfl, bq8⟩
    go_wp2_with (first | (at_make; refine Stop.un ?_) | (at_builtin; refine Stop.un ?_) | (with_reducible refine Stop.conv 33 9 ?_) | (with_reducible refine Stop.conv 9 33 ?_))
    refine MixPost.mk bq8 ?_
    replace e0 := Ext.cell bq8 e0
    replace e1 := Ext.cell bq8 e1
    replace e2 := Ext.cell bq8 e2
    replace e3 := Ext.cell bq8 e3
    replace e4 := Ext.cell bq8 e4
    replace e5 := Ext.cell bq8 e5
    replace B := Below.next B bq8
    clear bq8
    refine mix_quiet Keeps.ext 33 rfl (by kernel_rfl) rfl ?_
    intro ι U hne hU
    go_big_quiet_op
    clear hU hne U ι
    show wpAnyM _ _ _ _ _ _ _ _ _
    refine mix_quiet Keeps.ext 34 rfl (by kernel_rfl) rfl ?_
    intro ι U hne hU
    go_big_quiet_op
    clear hU hne U ι
    show wpAnyM _ _ _ _ _ _ _ _ _
    refine mix_quiet Keeps.ext 35 rfl (by kernel_rfl) rfl ?_
    intro ι U hne hU
    go_big_quiet_op
    clear hU hne U ι
    show wpAnyM _ _ _ _ _ _ _ _ _
    refine mix_end (by kernel_rfl) ?_
    clear e0 e1 e2 e3 e4 e5 hz hz'
    go_wp2_with (first | (at_make; refine Stop.un ?_) | (at_builtin; refine Stop.un ?_) | (with_reducible refine Stop.conv 33 9 ?_) | (with_reducible refine Stop.conv 9 33 ?_))
    go_ret
    exact ⟨rfl, B⟩
end Go.Proofs.Ytbikcjjbdgmhpaa
