/- CellOrder. -/
import Derived.Test.YtbikcjjbdgmhpaaForms
import Derived.Test.YtbikcjjbdgmhpaaShown4
set_option linter.unusedVariables false
namespace Go.Proofs.Ytbikcjjbdgmhpaa
open Go.RowKit
set_option maxRecDepth 100000 in
set_option maxHeartbeats 4000000 in
theorem cellOrder_any (a b c : V) (w : World) (ha : a.s.size ≤ maxLen) (hb : b.s.size ≤ maxLen) (hc : c.s.size ≤ maxLen) :
    Calls Try.prog 3 #[a.val, b.val, c.val] w (fun e w' => e = .returned (.bool true) ∧ Below w.heap.size w w') := by
  obtain ⟨k, n, s⟩ := a
  obtain ⟨k', n', s'⟩ := b
  obtain ⟨k2, n2, s2⟩ := c
  unfold maxLen at ha hb hc
  simp only [V.val] at ha hb hc ⊢
  go_enter Try.func3, Try.ntmps3
  go_wp2_with (first | (at_make; refine Stop.un ?_) | (at_builtin; refine Stop.un ?_) | (with_reducible refine Stop.conv 33 9 ?_) | (with_reducible refine Stop.conv 9 33 ?_))
  refine (shown_any _).mono ?_
  rintro e w1 ⟨rfl, b1⟩
  have i1 : Below w.heap.size w (w.alloc (.cells #[.int .u8 k, .int .i64 n, .string s] 23)) := (Below.refl _ _).alloc (Nat.le_refl _) _
  have i2 : Below (w.heap.size + 1) (w.alloc (.cells #[.int .u8 k, .int .i64 n, .string s] 23)) ((w.alloc (.cells #[.int .u8 k, .int .i64 n, .string s] 23)).alloc (.cells #[.int .u8 k', .int .i64 n', .string s'] 23)) := by
    have := (Below.refl (w.alloc (.cells #[.int .u8 k, .int .i64 n, .string s] 23)).heap.size (w.alloc (.cells #[.int .u8 k, .int .i64 n, .string s] 23))).alloc (Nat.le_refl _) (.cells #[.int .u8 k', .int .i64 n', .string s'] 23)
    simpa using this
  obtain ⟨e0, e1, e2, hz⟩ := ((((VAt.new w ⟨k, n, s⟩).mono ((Below.refl _ _).alloc (Nat.le_refl _) _)).mono ((Below.refl _ _).alloc (Nat.le_refl _) _)).mono b1).open_
  obtain ⟨e3, e4, e5, hz'⟩ := (((VAt.new (w.alloc (.cells #[.int .u8 k, .int .i64 n, .string s] 23)) ⟨k', n', s'⟩).mono ((Below.refl _ _).alloc (Nat.le_refl _) _)).mono b1).open_
  obtain ⟨e6, e7, e8, hz2⟩ := ((VAt.new ((w.alloc (.cells #[.int .u8 k, .int .i64 n, .string s] 23)).alloc (.cells #[.int .u8 k', .int .i64 n', .string s'] 23)) ⟨k2, n2, s2⟩).mono b1).open_
  have B := ((((Below.refl w.heap.size w).alloc (Nat.le_refl _) _).alloc (by simp) _).alloc (by simp; omega) _).next b1
  simp only [World.size_alloc] at e3 e4 e5 hz' e6 e7 e8 hz2
  clear b1 i1 i2
  by_cases hlong : s.size ≤ 3000 ∧ s'.size ≤ 3000 ∧ s2.size ≤ 3000
  · obtain ⟨h1, h2, h3⟩ := hlong
    clear ha hb hc
    have HT := Lib.hid (cmpV_tri ⟨k, n, s⟩ ⟨k', n', s'⟩ ⟨k2, n2, s2⟩)
    have HX := Lib.hid (cmpV_range ⟨k, n, s⟩ ⟨k', n', s'⟩)
    have HE := Lib.hid (cmpV_eqV ⟨k, n, s⟩ ⟨k', n', s'⟩)
    have HN := Lib.hid (cmpV_neg ⟨k, n, s⟩ ⟨k', n', s'⟩)
    have F1 := Lib.hid (fun W => compare_x k n s k' n' s' W)
    have F2 := Lib.hid (fun W => compare_x k' n' s' k2 n2 s2 W)
    have F3 := Lib.hid (fun W => compare_x k n s k2 n2 s2 W)
    have F4 := Lib.hid (fun W => compare_x k' n' s' k n s W)
    rw [HN.out] at F4
    generalize cmpV ⟨k, n, s⟩ ⟨k', n', s'⟩ = x at HT HX HE F1 F4
    generalize cmpV ⟨k', n', s'⟩ ⟨k2, n2, s2⟩ = y at HT F2
    generalize cmpV ⟨k, n, s⟩ ⟨k2, n2, s2⟩ = z at HT F3
    have hx : -1 ≤ x ∧ x ≤ 1 := by have := HX.out; omega
    obtain ⟨hx0, hx1⟩ := hx
    clear HN HX
    go_wp2_with (first | (at_make; refine Stop.un ?_) | (at_builtin; refine Stop.un ?_) | (with_reducible refine Stop.conv 33 9 ?_) | (with_reducible refine Stop.conv 9 33 ?_))
    refine mix_startE 12 rfl (by kernel_rfl) ?_
    intro xq hxq
    replace e0 := Ext.cell hxq e0
    replace e1 := Ext.cell hxq e1
    replace e2 := Ext.cell hxq e2
    replace e3 := Ext.cell hxq e3
    replace e4 := Ext.cell hxq e4
    replace e5 := Ext.cell hxq e5
    replace e6 := Ext.cell hxq e6
    replace e7 := Ext.cell hxq e7
    replace e8 := Ext.cell hxq e8
    replace B := Below.next B hxq
    clear hxq
    refine mix_quiet Keeps.ext 0 rfl (by kernel_rfl) rfl ?_
    intro ι U hne hU
    have hcw0 := fun ii => (hU ii).cell e0
    have hcw1 := fun ii => (hU ii).cell e1
    have hcw2 := fun ii => (hU ii).cell e2
    have hcw3 := fun ii => (hU ii).cell e3
    have hcw4 := fun ii => (hU ii).cell e4
    have hcw5 := fun ii => (hU ii).cell e5
    have hcw6 := fun ii => (hU ii).cell e6
    have hcw7 := fun ii => (hU ii).cell e7
    have hcw8 := fun ii => (hU ii).cell e8
    go_big_quiet_op
    clear hU hne hcw0 hcw1 hcw2 hcw3 hcw4 hcw5 hcw6 hcw7 hcw8 U ι
    show wpAnyM _ _ _ _ _ _ _ _ _
    refine mix_quiet Keeps.ext 1 rfl (by kernel_rfl) rfl ?_
    intro ι U hne hU
    have hcw0 := fun ii => (hU ii).cell e0
    have hcw1 := fun ii => (hU ii).cell e1
    have hcw2 := fun ii => (hU ii).cell e2
    have hcw3 := fun ii => (hU ii).cell e3
    have hcw4 := fun ii => (hU ii).cell e4
    have hcw5 := fun ii => (hU ii).cell e5
    have hcw6 := fun ii => (hU ii).cell e6
    have hcw7 := fun ii => (hU ii).cell e7
    have hcw8 := fun ii => (hU ii).cell e8
    go_big_quiet_op
    clear hU hne hcw0 hcw1 hcw2 hcw3 hcw4 hcw5 hcw6 hcw7 hcw8 U ι
    show wpAnyM _ _ _ _ _ _ _ _ _
    refine mix_quiet Keeps.ext 3 rfl (by kernel_rfl) rfl ?_
    intro ι U hne hU
    have hcw0 := fun ii => (hU ii).cell e0
    have hcw1 := fun ii => (hU ii).cell e1
    have hcw2 := fun ii => (hU ii).cell e2
    have hcw3 := fun ii => (hU ii).cell e3
    have hcw4 := fun ii => (hU ii).cell e4
    have hcw5 := fun ii => (hU ii).cell e5
    have hcw6 := fun ii => (hU ii).cell e6
    have hcw7 := fun ii => (hU ii).cell e7
    have hcw8 := fun ii => (hU ii).cell e8
    go_big_quiet_op
    clear hU hne hcw0 hcw1 hcw2 hcw3 hcw4 hcw5 hcw6 hcw7 hcw8 U ι
    show wpAnyM _ _ _ _ _ _ _ _ _
    refine mix_quiet Keeps.ext 4 rfl (by kernel_rfl) rfl ?_
    intro ι U hne hU
    have hcw0 := fun ii => (hU ii).cell e0
    have hcw1 := fun ii => (hU ii).cell e1
    have hcw2 := fun ii => (hU ii).cell e2
    have hcw3 := fun ii => (hU ii).cell e3
    have hcw4 := fun ii => (hU ii).cell e4
    have hcw5 := fun ii => (hU ii).cell e5
    have hcw6 := fun ii => (hU ii).cell e6
    have hcw7 := fun ii => (hU ii).cell e7
    have hcw8 := fun ii => (hU ii).cell e8
    go_big_quiet_op
    clear hU hne hcw0 hcw1 hcw2 hcw3 hcw4 hcw5 hcw6 hcw7 hcw8 U ι
    show wpAnyM _ _ _ _ _ _ _ _ _
    refine mix_quiet Keeps.ext 6 rfl (by kernel_rfl) rfl ?_
    intro ι U hne hU
    have hcw0 := fun ii => (hU ii).cell e0
    have hcw1 := fun ii => (hU ii).cell e1
    have hcw2 := fun ii => (hU ii).cell e2
    have hcw3 := fun ii => (hU ii).cell e3
    have hcw4 := fun ii => (hU ii).cell e4
    have hcw5 := fun ii => (hU ii).cell e5
    have hcw6 := fun ii => (hU ii).cell e6
    have hcw7 := fun ii => (hU ii).cell e7
    have hcw8 := fun ii => (hU ii).cell e8
    go_big_quiet_op
    clear hU hne hcw0 hcw1 hcw2 hcw3 hcw4 hcw5 hcw6 hcw7 hcw8 U ι
    show wpAnyM _ _ _ _ _ _ _ _ _
    refine mix_quiet Keeps.ext 7 rfl (by kernel_rfl) rfl ?_
    intro ι U hne hU
    have hcw0 := fun ii => (hU ii).cell e0
    have hcw1 := fun ii => (hU ii).cell e1
    have hcw2 := fun ii => (hU ii).cell e2
    have hcw3 := fun ii => (hU ii).cell e3
    have hcw4 := fun ii => (hU ii).cell e4
    have hcw5 := fun ii => (hU ii).cell e5
    have hcw6 := fun ii => (hU ii).cell e6
    have hcw7 := fun ii => (hU ii).cell e7
    have hcw8 := fun ii => (hU ii).cell e8
    go_big_quiet_op
    clear hU hne hcw0 hcw1 hcw2 hcw3 hcw4 hcw5 hcw6 hcw7 hcw8 U ι
    show wpAnyM _ _ _ _ _ _ _ _ _
    refine mix_any 2 rfl (by kernel_rfl) rfl ?_
    go_wp2_with (first | (at_make; refine Stop.un ?_) | (at_builtin; refine Stop.un ?_) | (with_reducible refine Stop.conv 33 9 ?_) | (with_reducible refine Stop.conv 9 33 ?_))
    refine (F1.out _).mono ?_
    rintro e wq1 ⟨rfl, bq1⟩
    go_wp2_with (first | (at_make; refine Stop.un ?_) | (at_builtin; refine Stop.un ?_) | (with_reducible refine Stop.conv 33 9 ?_) | (with_reducible refine Stop.conv 9 33 ?_))
    refine MixPost.mk bq1 ?_
    replace e0 := Ext.cell bq1 e0
    replace e1 := Ext.cell bq1 e1
    replace e2 := Ext.cell bq1 e2
    replace e3 := Ext.cell bq1 e3
    replace e4 := Ext.cell bq1 e4
    replace e5 := Ext.cell bq1 e5
    replace e6 := Ext.cell bq1 e6
    replace e7 := Ext.cell bq1 e7
    replace e8 := Ext.cell bq1 e8
    replace B := Below.next B bq1
    clear bq1
    refine mix_any 5 rfl (by kernel_rfl) rfl ?_
    go_wp2_with (first | (at_make; refine Stop.un ?_) | (at_builtin; refine Stop.un ?_) | (with_reducible refine Stop.conv 33 9 ?_) | (with_reducible refine Stop.conv 9 33 ?_))
    refine (F2.out _).mono ?_
    rintro e wq2 ⟨rfl, bq2⟩
    go_wp2_with (first | (at_make; refine Stop.un ?_) | (at_builtin; refine Stop.un ?_) | (with_reducible refine Stop.conv 33 9 ?_) | (with_reducible refine Stop.conv 9 33 ?_))
    refine MixPost.mk bq2 ?_
    replace e0 := Ext.cell bq2 e0
    replace e1 := Ext.cell bq2 e1
    replace e2 := Ext.cell bq2 e2
    replace e3 := Ext.cell bq2 e3
    replace e4 := Ext.cell bq2 e4
    replace e5 := Ext.cell bq2 e5
    replace e6 := Ext.cell bq2 e6
    replace e7 := Ext.cell bq2 e7
    replace e8 := Ext.cell bq2 e8
    replace B := Below.next B bq2
    clear bq2
    refine mix_any 8 rfl (by kernel_rfl) rfl ?_
    go_wp2_with (first | (at_make; refine Stop.un ?_) | (at_builtin; refine Stop.un ?_) | (with_reducible refine Stop.conv 33 9 ?_) | (with_reducible refine Stop.conv 9 33 ?_))
    refine (F3.out _).mono ?_
    rintro e wq3 ⟨rfl, bq3⟩
    go_wp2_with (first | (at_make; refine Stop.un ?_) | (at_builtin; refine Stop.un ?_) | (with_reducible refine Stop.conv 33 9 ?_) | (with_reducible refine Stop.conv 9 33 ?_))
    refine MixPost.mk bq3 ?_
    replace e0 := Ext.cell bq3 e0
    replace e1 := Ext.cell bq3 e1
    replace e2 := Ext.cell bq3 e2
    replace e3 := Ext.cell bq3 e3
    replace e4 := Ext.cell bq3 e4
    replace e5 := Ext.cell bq3 e5
    replace e6 := Ext.cell bq3 e6
    replace e7 := Ext.cell bq3 e7
    replace e8 := Ext.cell bq3 e8
    replace B := Below.next B bq3
    clear bq3
    refine mix_quiet Keeps.ext 9 rfl (by kernel_rfl) rfl ?_
    intro ι U hne hU
    go_big_quiet_op
    clear hU hne U ι
    show wpAnyM _ _ _ _ _ _ _ _ _
    refine mix_quiet Keeps.ext 10 rfl (by kernel_rfl) rfl ?_
    intro ι U hne hU
    go_big_quiet_op
    clear hU hne U ι
    show wpAnyM _ _ _ _ _ _ _ _ _
    refine mix_quiet Keeps.ext 11 rfl (by kernel_rfl) rfl ?_
    intro ι U hne hU
    go_big_quiet_op
    clear hU hne U ι
    show wpAnyM _ _ _ _ _ _ _ _ _
    refine mix_end (by kernel_rfl) ?_
    clear e6 e7 e8
    go_wp2_with (first | (at_make; refine Stop.un ?_) | (at_builtin; refine Stop.un ?_) | (with_reducible refine Stop.conv 33 9 ?_) | (with_reducible refine Stop.conv 9 33 ?_) | (with_reducible refine Stop.eql 23 ?_) | (with_reducible refine Stop.neq 23 ?_))
    refine (F4.out _).mono ?_
    rintro e w2 ⟨rfl, b2⟩
    replace B := B.next b2
    replace e0 := Ext.cell b2 e0
    replace e1 := Ext.cell b2 e1
    replace e2 := Ext.cell b2 e2
    replace e3 := Ext.cell b2 e3
    replace e4 := Ext.cell b2 e4
    replace e5 := Ext.cell b2 e5
    clear b2
    go_wp2_with (first | (at_make; refine Stop.un ?_) | (at_builtin; refine Stop.un ?_) | (with_reducible refine Stop.conv 33 9 ?_) | (with_reducible refine Stop.conv 9 33 ?_) | (with_reducible refine Stop.eql 23 ?_) | (with_reducible refine Stop.neq 23 ?_))
    refine Stop.mk (wpList_as _ rfl (exec_eqV ⟨_, _, _⟩ ⟨_, _, _⟩ rfl rfl _) ?_)
    rw [← HE.out]
    clear e0 e1 e2 e3 e4 e5 F1 F2 F3 F4
    go_wp2_with (first | (at_make; refine Stop.un ?_) | (at_builtin; refine Stop.un ?_) | (with_reducible refine Stop.conv 33 9 ?_) | (with_reducible refine Stop.conv 9 33 ?_) | (with_reducible refine Stop.eql 23 ?_) | (with_reducible refine Stop.neq 23 ?_))
    all_goals go_ret
    all_goals refine ⟨congrArg (fun b => Ending.returned (Value.bool b)) ?_, B⟩
    all_goals first | rfl | (have hT := HT.out; unfold Tri at hT; simp; omega)
  · have hcs : 3000 < s.size ∨ (s.size ≤ 3000 ∧ 3000 < s'.size) ∨ (s.size ≤ 3000 ∧ s'.size ≤ 3000 ∧ 3000 < s2.size) := by omega
    clear hlong
    rcases hcs with h1 | ⟨h1, h2⟩ | ⟨h1, h2, h3⟩
    all_goals
      go_wp2_with (first | (at_make; refine Stop.un ?_) | (at_builtin; refine Stop.un ?_) | (with_reducible refine Stop.conv 33 9 ?_) | (with_reducible refine Stop.conv 9 33 ?_))
      go_ret
      exact ⟨rfl, B⟩
end Go.Proofs.Ytbikcjjbdgmhpaa
