/- GroupWide. -/
import Derived.Test.YtbiniecjenencaaGShown
set_option linter.unusedVariables false
set_option linter.unusedSimpArgs false
set_option maxRecDepth 10000
namespace Go.Proofs.Ytbiniecjenencaa
open Go.RowKit
theorem addL_back (lo n : Int) (l0 : 0 ≤ lo) (l1 : lo ≤ 18446744073709551615) : addL (addL (addL (addL lo n) (-1 - n)) 1) 0 = lo := by
  unfold addL u64
  omega
theorem addH_ok (hi lo n : Int) : -9223372036854775808 ≤ addH hi lo n ∧ addH hi lo n ≤ 9223372036854775807 := by
  unfold addH wrap64; omega
/-- The upper half, without wraps in between. -/
theorem addH_eq (hi lo n : Int) (l0 : 0 ≤ lo) (l1 : lo ≤ 18446744073709551615) : addH hi lo n = wrap64 (hi + n / 9223372036854775808 + (lo + u64 n) / 18446744073709551616) := by
  have h0 := u64_lo n
  have h1 := u64_hi n
  unfold addH
  generalize u64 n = m at h0 h1
  unfold wrap64
  omega
theorem wrap_add (a b : Int) : wrap64 (wrap64 a + b) = wrap64 (a + b) := by unfold wrap64; omega
theorem addH_back (hi lo n : Int) (h0 : -9223372036854775808 ≤ hi) (h1 : hi ≤ 9223372036854775807) (l0 : 0 ≤ lo) (l1 : lo ≤ 18446744073709551615) (n0 : -9223372036854775808 ≤ n) (n1 : n ≤ 9223372036854775807) :
    addH (addH (addH (addH hi lo n) (addL lo n) (-1 - n)) (addL (addL lo n) (-1 - n)) 1) (addL (addL (addL lo n) (-1 - n)) 1) 0 = hi := by
  have a1 := addL_ok lo n
  have a2 := addL_ok (addL lo n) (-1 - n)
  have a3 := addL_ok (addL (addL lo n) (-1 - n)) 1
  rw [addH_eq _ _ 0 a3.1 a3.2, addH_eq _ _ 1 a2.1 a2.2, addH_eq _ _ (-1 - n) a1.1 a1.2, addH_eq hi lo n l0 l1]
  rw [Int.add_assoc, Int.add_assoc, Int.add_assoc, Int.add_assoc, wrap_add, Int.add_assoc, wrap_add, Int.add_assoc, wrap_add]
  have e : (addL lo n) = (lo + u64 n) - 18446744073709551616 * ((lo + u64 n) / 18446744073709551616) := by unfold addL; omega
  have hw : ∀ x, x = hi → wrap64 x = hi := fun x hx => by rw [hx]; unfold wrap64; omega
  refine hw _ ?_
  unfold addL u64
  omega
set_option maxRecDepth 100000 in
set_option maxHeartbeats 8000000 in
theorem groupWide_any (hi lo n : Int) (w : World) (h0 : -9223372036854775808 ≤ hi) (h1 : hi ≤ 9223372036854775807) (l0 : 0 ≤ lo) (l1 : lo ≤ 18446744073709551615) (n0 : -9223372036854775808 ≤ n) (n1 : n ≤ 9223372036854775807) :
    Calls Try.prog 5 #[.agg #[.int .i64 hi, .int .u64 lo], .int .i64 n] w (fun e w' => e = .returned (.bool true) ∧ Below w.heap.size w w') := by
  have HB := Lib.hid (And.intro (addH_back hi lo n h0 h1 l0 l1 n0 n1) (addL_back lo n l0 l1))
  have z2 := At.new w #[.int .i64 hi, .int .u64 lo] 45
  have b0 := (Below.refl w.heap.size w).alloc (Nat.le_refl _) (.cells #[.int .i64 hi, .int .u64 lo] 45)
  go_enter Try.func5, Try.ntmps5
  go_wp2_with (first | (at_make; refine Stop.un ?_) | (at_builtin; refine Stop.un ?_) | (with_reducible refine Stop.conv 22 9 ?_) | (with_reducible refine Stop.conv 9 22 ?_))
  generalize w.alloc (.cells #[.int .i64 hi, .int .u64 lo] 45) = wA at z2 b0 ⊢
  obtain ⟨g2, hg2⟩ : ∃ g2, w.heap.size = g2 := ⟨_, rfl⟩
  rw [hg2] at z2 ⊢
  clear hg2
  refine (shown_any22 _).mono ?_
  rintro e w1 ⟨rfl, bt⟩
  replace z2 := z2.mono bt
  replace b0 := b0.next bt
  clear bt
  have c0 := z2.cell 0 rfl
  have c1 := z2.cell 1 rfl
  go_wp2_with (first | (at_make; refine Stop.un ?_) | (at_builtin; refine Stop.un ?_) | (with_reducible refine Stop.conv 22 9 ?_) | (with_reducible refine Stop.conv 9 22 ?_))
  refine (gadd_any hi lo n _ l0 l1).mono ?_
  rintro e w2 ⟨rfl, bt⟩
  replace z2 := z2.mono bt
  replace b0 := b0.next bt
  clear bt c0 c1
  have HX1 := Lib.hid (addL_ok lo n)
  have HRA : Hid (addH hi lo n = addH hi lo n ∧ addL lo n = addL lo n) := Lib.hid ⟨rfl, rfl⟩
  have HRD := Lib.hid (fun W => radd_any hi lo n W h0 h1 l0 l1 n0 n1)
  generalize addH hi lo n = xh at HB HRA HRD ⊢
  generalize addL lo n = xl at HB HX1 HRA HRD ⊢
  have c0 := z2.cell 0 rfl
  have c1 := z2.cell 1 rfl
  go_upto_region 3 with fail
  have z6 : At (w2.alloc (.cells #[.int .i64 xh, .int .u64 xl] 45)) (w2.heap.size) #[.int .i64 xh, .int .u64 xl] 45 := by simpa only [World.size_alloc, Nat.add_assoc, Nat.reduceAdd] using At.new w2 #[.int .i64 xh, .int .u64 xl] 45
  have BB : Below w2.heap.size w2 (w2.alloc (.cells #[.int .i64 xh, .int .u64 xl] 45)) := Below.alloc (Below.refl w2.heap.size w2) (by (try simp only [World.size_alloc]) <;> omega) (.cells #[.int .i64 xh, .int .u64 xl] 45)
  replace z2 := At.mono z2 BB
  replace b0 := Below.next b0 BB
  clear BB
  generalize w2.alloc (.cells #[.int .i64 xh, .int .u64 xl] 45) = y_z6 at z2 b0 z6 ⊢
  obtain ⟨g6, hg⟩ : ∃ g, w2.heap.size = g := ⟨_, rfl⟩
  rw [hg] at z6 ⊢
  clear hg
  clear c0 c1
  have z2a := z2.cell 0 rfl
  have z2b := z2.cell 1 rfl
  go_wp2_with (first | (at_make; refine Stop.un ?_) | (at_builtin; refine Stop.un ?_) | (with_reducible refine Stop.conv 22 9 ?_) | (with_reducible refine Stop.conv 9 22 ?_))
  clear z2a z2b
  refine (gnarrow_any hi lo _).mono ?_
  rintro e w3 ⟨rfl, bt⟩
  replace z2 := At.mono z2 bt
  replace b0 := Below.next b0 bt
  replace z6 := At.mono z6 bt
  clear bt
  have z2a := z2.cell 0 rfl
  have z2b := z2.cell 1 rfl
  go_wp2_with (first | (at_make; refine Stop.un ?_) | (at_builtin; refine Stop.un ?_) | (with_reducible refine Stop.conv 22 9 ?_) | (with_reducible refine Stop.conv 9 22 ?_))
  clear z2a z2b
  refine (rnarrow_any hi lo _ l0 l1).mono ?_
  rintro e w4 ⟨rfl, bt⟩
  replace z2 := At.mono z2 bt
  replace b0 := Below.next b0 bt
  replace z6 := At.mono z6 bt
  clear bt
  have z6a := z6.cell 0 rfl
  have z6b := z6.cell 1 rfl
  go_wp2_with (first | (at_make; refine Stop.un ?_) | (at_builtin; refine Stop.un ?_) | (with_reducible refine Stop.conv 22 9 ?_) | (with_reducible refine Stop.conv 9 22 ?_))
  clear z6a z6b
  refine (gadd_any xh xl (-1 - n) _ HX1.out.1 HX1.out.2).mono ?_
  rintro e w5 ⟨rfl, bt⟩
  replace z2 := At.mono z2 bt
  replace b0 := Below.next b0 bt
  replace z6 := At.mono z6 bt
  clear bt
  have HX2 := Lib.hid (addL_ok xl (-1 - n))
  generalize addH xh xl (-1 - n) = yh at HB ⊢
  generalize addL xl (-1 - n) = yl at HB HX2 ⊢
  go_wp2_with (first | (at_make; refine Stop.un ?_) | (at_builtin; refine Stop.un ?_) | (with_reducible refine Stop.conv 22 9 ?_) | (with_reducible refine Stop.conv 9 22 ?_))
  refine (gadd_any yh yl 1 _ HX2.out.1 HX2.out.2).mono ?_
  rintro e w6 ⟨rfl, bt⟩
  replace z2 := At.mono z2 bt
  replace b0 := Below.next b0 bt
  replace z6 := At.mono z6 bt
  clear bt
  have HX3 := Lib.hid (addL_ok yl 1)
  generalize addH yh yl 1 = zh at HB ⊢
  generalize addL yl 1 = zl at HB HX3 ⊢
  go_wp2_with (first | (at_make; refine Stop.un ?_) | (at_builtin; refine Stop.un ?_) | (with_reducible refine Stop.conv 22 9 ?_) | (with_reducible refine Stop.conv 9 22 ?_))
  refine (gadd_any zh zl 0 _ HX3.out.1 HX3.out.2).mono ?_
  rintro e w7 ⟨rfl, bt⟩
  replace z2 := At.mono z2 bt
  replace b0 := Below.next b0 bt
  replace z6 := At.mono z6 bt
  clear bt
  rw [HB.out.1, HB.out.2]
  go_upto_region 6 with fail
  have z11 : At (w7.alloc (.cells #[.int .i64 hi, .int .u64 lo] 45)) (w7.heap.size) #[.int .i64 hi, .int .u64 lo] 45 := by simpa only [World.size_alloc, Nat.add_assoc, Nat.reduceAdd] using At.new w7 #[.int .i64 hi, .int .u64 lo] 45
  have BB : Below w7.heap.size w7 (w7.alloc (.cells #[.int .i64 hi, .int .u64 lo] 45)) := Below.alloc (Below.refl w7.heap.size w7) (by (try simp only [World.size_alloc]) <;> omega) (.cells #[.int .i64 hi, .int .u64 lo] 45)
  replace z2 := At.mono z2 BB
  replace b0 := Below.next b0 BB
  replace z6 := At.mono z6 BB
  clear BB
  generalize w7.alloc (.cells #[.int .i64 hi, .int .u64 lo] 45) = y_z11 at z2 b0 z6 z11 ⊢
  obtain ⟨g11, hg⟩ : ∃ g, w7.heap.size = g := ⟨_, rfl⟩
  rw [hg] at z11 ⊢
  clear hg
  refine mix_startE 24 rfl (by kernel_rfl) ?_
  intro xq hxq
  replace z2 := At.mono z2 hxq
  replace b0 := Below.next b0 hxq
  replace z6 := At.mono z6 hxq
  replace z11 := At.mono z11 hxq
  clear hxq
  refine mix_quiet Keeps.ext 0 rfl (by kernel_rfl) rfl ?_
  intro ι U hne hU
  go_big_quiet_op
  clear hU hne U ι
  show wpAnyM _ _ _ _ _ _ _ _ _
  refine mix_quiet Keeps.ext 1 rfl (by kernel_rfl) rfl ?_
  intro ι U hne hU
  go_big_quiet_op
  clear hU hne U ι
  show wpAnyM _ _ _ _ _ _ _ _ _
  refine mix_quiet Keeps.ext 2 rfl (by kernel_rfl) rfl ?_
  intro ι U hne hU
  have hcw0 := fun ii => (At.mono z2 (hU ii)).cell 0 rfl
  have hcw1 := fun ii => (At.mono z2 (hU ii)).cell 1 rfl
  have hcw2 := fun ii => (At.mono z6 (hU ii)).cell 0 rfl
  have hcw3 := fun ii => (At.mono z6 (hU ii)).cell 1 rfl
  have hcw4 := fun ii => (At.mono z11 (hU ii)).cell 0 rfl
  have hcw5 := fun ii => (At.mono z11 (hU ii)).cell 1 rfl
  go_big_quiet_op
  clear hU hne hcw0 hcw1 hcw2 hcw3 hcw4 hcw5 U ι
  show wpAnyM _ _ _ _ _ _ _ _ _
  refine mix_quiet Keeps.ext 3 rfl (by kernel_rfl) rfl ?_
  intro ι U hne hU
  have hcw0 := fun ii => (At.mono z2 (hU ii)).cell 0 rfl
  have hcw1 := fun ii => (At.mono z2 (hU ii)).cell 1 rfl
  have hcw2 := fun ii => (At.mono z6 (hU ii)).cell 0 rfl
  have hcw3 := fun ii => (At.mono z6 (hU ii)).cell 1 rfl
  have hcw4 := fun ii => (At.mono z11 (hU ii)).cell 0 rfl
  have hcw5 := fun ii => (At.mono z11 (hU ii)).cell 1 rfl
  go_big_quiet_op
  clear hU hne hcw0 hcw1 hcw2 hcw3 hcw4 hcw5 U ι
  show wpAnyM _ _ _ _ _ _ _ _ _
  refine mix_quiet Keeps.ext 4 rfl (by kernel_rfl) rfl ?_
  intro ι U hne hU
  go_big_quiet_op
  clear hU hne U ι
  show wpAnyM _ _ _ _ _ _ _ _ _
  refine mix_any 5 rfl (by kernel_rfl) rfl ?_
  go_wp2_with (first | (at_make; refine Stop.un ?_) | (at_builtin; refine Stop.un ?_) | (with_reducible refine Stop.conv 22 9 ?_) | (with_reducible refine Stop.conv 9 22 ?_))
  refine (HRD.out _).mono ?_
  rintro e wq1 ⟨rfl, bq1⟩
  go_wp2_with (first | (at_make; refine Stop.un ?_) | (at_builtin; refine Stop.un ?_) | (with_reducible refine Stop.conv 22 9 ?_) | (with_reducible refine Stop.conv 9 22 ?_))
  refine MixPost.mk bq1 ?_
  replace z2 := At.mono z2 bq1
  replace b0 := Below.next b0 bq1
  replace z6 := At.mono z6 bq1
  replace z11 := At.mono z11 bq1
  clear bq1
  refine mix_quiet Keeps.ext 6 rfl (by kernel_rfl) rfl ?_
  intro ι U hne hU
  go_big_quiet_op
  clear hU hne U ι
  show wpAnyM _ _ _ _ _ _ _ _ _
  refine mix_quiet Keeps.ext 7 rfl (by kernel_rfl) rfl ?_
  intro ι U hne hU
  go_big_quiet_op
  clear hU hne U ι
  show wpAnyM _ _ _ _ _ _ _ _ _
  refine mix_quiet Keeps.ext 8 rfl (by kernel_rfl) rfl ?_
  intro ι U hne hU
  go_big_quiet_op
  clear hU hne U ι
  show wpAnyM _ _ _ _ _ _ _ _ _
  refine mix_quiet Keeps.ext 9 rfl (by kernel_rfl) rfl ?_
  intro ι U hne hU
  go_big_quiet_op
  clear hU hne U ι
  show wpAnyM _ _ _ _ _ _ _ _ _
  refine mix_quiet Keeps.ext 10 rfl (by kernel_rfl) rfl ?_
  intro ι U hne hU
  go_big_quiet_op
  clear hU hne U ι
  show wpAnyM _ _ _ _ _ _ _ _ _
  refine mix_quiet Keeps.ext 11 rfl (by kernel_rfl) rfl ?_
  intro ι U hne hU
  go_big_quiet_op
  clear hU hne U ι
  show wpAnyM _ _ _ _ _ _ _ _ _
  refine mix_quiet Keeps.ext 12 rfl (by kernel_rfl) rfl ?_
  intro ι U hne hU
  go_big_quiet_op
  clear hU hne U ι
  show wpAnyM _ _ _ _ _ _ _ _ _
  refine mix_quiet Keeps.ext 13 rfl (by kernel_rfl) rfl ?_
  intro ι U hne hU
  go_big_quiet_op
  clear hU hne U ι
  show wpAnyM _ _ _ _ _ _ _ _ _
  refine mix_quiet Keeps.ext 14 rfl (by kernel_rfl) rfl ?_
  intro ι U hne hU
  go_big_quiet_op
  clear hU hne U ι
  show wpAnyM _ _ _ _ _ _ _ _ _
  refine mix_quiet Keeps.ext 15 rfl (by kernel_rfl) rfl ?_
  intro ι U hne hU
  go_big_quiet_op
  clear hU hne U ι
  show wpAnyM _ _ _ _ _ _ _ _ _
  refine mix_quiet Keeps.ext 16 rfl (by kernel_rfl) rfl ?_
  intro ι U hne hU
  go_big_quiet_op
  clear hU hne U ι
  show wpAnyM _ _ _ _ _ _ _ _ _
  refine mix_quiet Keeps.ext 17 rfl (by kernel_rfl) rfl ?_
  intro ι U hne hU
  go_big_quiet_op
  clear hU hne U ι
  show wpAnyM _ _ _ _ _ _ _ _ _
  refine mix_quiet Keeps.ext 18 rfl (by kernel_rfl) rfl ?_
  intro ι U hne hU
  go_big_quiet_op
  clear hU hne U ι
  show wpAnyM _ _ _ _ _ _ _ _ _
  refine mix_quiet Keeps.ext 19 rfl (by kernel_rfl) rfl ?_
  intro ι U hne hU
  have hcw0 := fun ii => (At.mono z2 (hU ii)).cell 0 rfl
  have hcw1 := fun ii => (At.mono z2 (hU ii)).cell 1 rfl
  have hcw2 := fun ii => (At.mono z6 (hU ii)).cell 0 rfl
  have hcw3 := fun ii => (At.mono z6 (hU ii)).cell 1 rfl
  have hcw4 := fun ii => (At.mono z11 (hU ii)).cell 0 rfl
  have hcw5 := fun ii => (At.mono z11 (hU ii)).cell 1 rfl
  go_big_quiet_op
  clear hU hne hcw0 hcw1 hcw2 hcw3 hcw4 hcw5 U ι
  show wpAnyM _ _ _ _ _ _ _ _ _
  refine mix_quiet Keeps.ext 20 rfl (by kernel_rfl) rfl ?_
  intro ι U hne hU
  have hcw0 := fun ii => (At.mono z2 (hU ii)).cell 0 rfl
  have hcw1 := fun ii => (At.mono z2 (hU ii)).cell 1 rfl
  have hcw2 := fun ii => (At.mono z6 (hU ii)).cell 0 rfl
  have hcw3 := fun ii => (At.mono z6 (hU ii)).cell 1 rfl
  have hcw4 := fun ii => (At.mono z11 (hU ii)).cell 0 rfl
  have hcw5 := fun ii => (At.mono z11 (hU ii)).cell 1 rfl
  go_big_quiet_op
  clear hU hne hcw0 hcw1 hcw2 hcw3 hcw4 hcw5 U ι
  show wpAnyM _ _ _ _ _ _ _ _ _
  refine mix_quiet Keeps.ext 21 rfl (by kernel_rfl) rfl ?_
  intro ι U hne hU
  go_big_quiet_op
  clear hU hne U ι
  show wpAnyM _ _ _ _ _ _ _ _ _
  refine mix_quiet Keeps.ext 22 rfl (by kernel_rfl) rfl ?_
  intro ι U hne hU
  go_big_quiet_op
  clear hU hne U ι
  show wpAnyM _ _ _ _ _ _ _ _ _
  refine mix_quiet Keeps.ext 23 rfl (by kernel_rfl) rfl ?_
  intro ι U hne hU
  go_big_quiet_op
  clear hU hne U ι
  show wpAnyM _ _ _ _ _ _ _ _ _
  refine mix_end (by kernel_rfl) ?_
  go_wp2_with (first | (at_make; refine Stop.un ?_) | (at_builtin; refine Stop.un ?_) | (with_reducible refine Stop.conv 22 9 ?_) | (with_reducible refine Stop.conv 9 22 ?_))
  go_ret
  exact ⟨by first | rfl | simp, b0⟩
end Go.Proofs.Ytbiniecjenencaa
