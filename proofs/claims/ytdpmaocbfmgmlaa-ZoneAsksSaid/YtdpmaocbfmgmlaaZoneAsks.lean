/- ZoneAsks. -/
import Derived.Test.YtdpmaocbfmgmlaaZoneOf
set_option linter.unusedVariables false
set_option linter.unusedSimpArgs false
namespace Go.Proofs.Ytdpmaocbfmgmlaa
open Go.RowKit
set_option maxRecDepth 100000 in
set_option maxHeartbeats 8000000 in
theorem zoneAsks_any (z : Zn) (v : V) (w : World) (hz : z.ok) (hv : v.s.size ≤ maxLen) :
    Calls Try.prog 5 #[z.val, v.val] w (fun e w' => e = .returned (.bool true) ∧ Below w.heap.size w w') := by
  have HS1 := Lib.hid (fun w => short_any z w hz.1 hz.2)
  generalize decide (z.lo.s.size ≤ 1100 ∧ z.hi.s.size ≤ 1100) = p1 at HS1
  have HE := Lib.hid (fun w => zequal_any z v w)
  have HRE := Lib.hid (fun w => requalz_any z v w)
  have HL := Lib.hid (fun w => zless_any z v w)
  have HRL := Lib.hid (fun w => rlessz_any z v w)
  have HN := Lib.hid (fun w => znull_any z w)
  have HRN := Lib.hid (fun w => rnull_any z w)
  generalize equalZ z v = y1 at HE HRE
  generalize lessZ z v = y2 at HL HRL
  generalize nullZ z = y3 at HN HRN
  obtain ⟨⟨k, n, s⟩, ⟨k', n', s'⟩, nu, ma⟩ := z
  obtain ⟨k2, n2, s2⟩ := v
  obtain ⟨a1, a2, a3⟩ := y1
  obtain ⟨b1, b2, b3⟩ := y2
  obtain ⟨c1, c2, c3⟩ := y3
  unfold maxLen at hv
  clear hz
  simp only [Zn.val, V.val, Tri3.val] at HS1 HE HRE HL HRL HN HRN hv ⊢
  go_enter Try.func5, Try.ntmps5
  go_wp2_with (first | (at_make; refine Stop.un ?_) | (at_builtin; refine Stop.un ?_) | (with_reducible refine Stop.conv 40 9 ?_) | (with_reducible refine Stop.conv 9 40 ?_))
  refine (shown_any _).mono ?_
  rintro e w1 ⟨rfl, bb1⟩
  have z1 : At ((w.alloc (.cells #[.int .u8 k, .int .i64 n, .string s, .int .u8 k', .int .i64 n', .string s', .int .i64 nu, .int .i64 ma] 26)).alloc (.cells #[.int .u8 k2, .int .i64 n2, .string s2] 24)) (w.heap.size) #[.int .u8 k, .int .i64 n, .string s, .int .u8 k', .int .i64 n', .string s', .int .i64 nu, .int .i64 ma] 26 := by simpa only [World.size_alloc, Nat.add_assoc, Nat.reduceAdd] using (At.new w #[.int .u8 k, .int .i64 n, .string s, .int .u8 k', .int .i64 n', .string s', .int .i64 nu, .int .i64 ma] 26).alloc (.cells #[.int .u8 k2, .int .i64 n2, .string s2] 24)
  have z2 : At ((w.alloc (.cells #[.int .u8 k, .int .i64 n, .string s, .int .u8 k', .int .i64 n', .string s', .int .i64 nu, .int .i64 ma] 26)).alloc (.cells #[.int .u8 k2, .int .i64 n2, .string s2] 24)) (w.heap.size + 1) #[.int .u8 k2, .int .i64 n2, .string s2] 24 := by simpa only [World.size_alloc, Nat.add_assoc, Nat.reduceAdd] using At.new (w.alloc (.cells #[.int .u8 k, .int .i64 n, .string s, .int .u8 k', .int .i64 n', .string s', .int .i64 nu, .int .i64 ma] 26)) #[.int .u8 k2, .int .i64 n2, .string s2] 24
  have BB : Below w.heap.size w ((w.alloc (.cells #[.int .u8 k, .int .i64 n, .string s, .int .u8 k', .int .i64 n', .string s', .int .i64 nu, .int .i64 ma] 26)).alloc (.cells #[.int .u8 k2, .int .i64 n2, .string s2] 24)) := Below.alloc (Below.alloc (Below.refl w.heap.size w) (by (try simp only [World.size_alloc]) <;> omega) (.cells #[.int .u8 k, .int .i64 n, .string s, .int .u8 k', .int .i64 n', .string s', .int .i64 nu, .int .i64 ma] 26)) (by (try simp only [World.size_alloc]) <;> omega) (.cells #[.int .u8 k2, .int .i64 n2, .string s2] 24)
  replace z1 := At.mono z1 bb1
  replace z2 := At.mono z2 bb1
  replace BB := Below.next BB bb1
  clear bb1
  have x0 := z1.cell 0 rfl
  have x1 := z1.cell 1 rfl
  have x2 := z1.cell 2 rfl
  have x3 := z1.cell 3 rfl
  have x4 := z1.cell 4 rfl
  have x5 := z1.cell 5 rfl
  have x6 := z1.cell 6 rfl
  have x7 := z1.cell 7 rfl
  have xl := z1.lt
  have y0 := z2.cell 0 rfl
  have y1 := z2.cell 1 rfl
  have y2 := z2.cell 2 rfl
  have yl := z2.lt
  go_wp2_with (first | (at_make; refine Stop.un ?_) | (at_builtin; refine Stop.un ?_) | (with_reducible refine Stop.conv 40 9 ?_) | (with_reducible refine Stop.conv 9 40 ?_))
  refine (HS1.out _).mono ?_
  rintro e w2 ⟨rfl, bb2⟩
  clear x0 x1 x2 x3 x4 x5 x6 x7 y0 y1 y2 xl yl
  replace z1 := At.mono z1 bb2
  replace z2 := At.mono z2 bb2
  replace BB := Below.next BB bb2
  clear bb2
  have x0 := z1.cell 0 rfl
  have x1 := z1.cell 1 rfl
  have x2 := z1.cell 2 rfl
  have x3 := z1.cell 3 rfl
  have x4 := z1.cell 4 rfl
  have x5 := z1.cell 5 rfl
  have x6 := z1.cell 6 rfl
  have x7 := z1.cell 7 rfl
  have xl := z1.lt
  have y0 := z2.cell 0 rfl
  have y1 := z2.cell 1 rfl
  have y2 := z2.cell 2 rfl
  have yl := z2.lt
  cases p1 with
  | false =>
    go_wp2_with (first | (at_make; refine Stop.un ?_) | (at_builtin; refine Stop.un ?_) | (with_reducible refine Stop.conv 40 9 ?_) | (with_reducible refine Stop.conv 9 40 ?_))
    go_ret
    exact ⟨rfl, BB⟩
  | true =>
    by_cases hs : s2.size ≤ 1100
    ·
      have hs2 : ¬ (1100 : Int) < s2.size := by omega
      go_wp2_with (first | (at_make; refine Stop.un ?_) | (at_builtin; refine Stop.un ?_) | (with_reducible refine Stop.conv 40 9 ?_) | (with_reducible refine Stop.conv 9 40 ?_))
      refine mix_startE 27 rfl (by kernel_rfl) ?_
      intro xq hxq
      replace z1 := At.mono z1 hxq
      replace z2 := At.mono z2 hxq
      replace BB := Below.next BB hxq
      clear hxq
      refine mix_quiet Keeps.ext 0 rfl (by kernel_rfl) rfl ?_
      intro ι U hne hU
      go_big_quiet_op
      clear hU hne U ι
      show wpAnyM _ _ _ _ _ _ _ _ _
      refine mix_quiet Keeps.ext 1 rfl (by kernel_rfl) rfl ?_
      intro ι U hne hU
      go_big_quiet_op
      clear hU hne U ι
      show wpAnyM _ _ _ _ _ _ _ _ _
      refine mix_quiet Keeps.ext 2 rfl (by kernel_rfl) rfl ?_
      intro ι U hne hU
      have hcw0 := fun ii => (At.mono z1 (hU ii)).cell 0 rfl
      have hcw1 := fun ii => (At.mono z1 (hU ii)).cell 1 rfl
      have hcw2 := fun ii => (At.mono z1 (hU ii)).cell 2 rfl
      have hcw3 := fun ii => (At.mono z1 (hU ii)).cell 3 rfl
      have hcw4 := fun ii => (At.mono z1 (hU ii)).cell 4 rfl
      have hcw5 := fun ii => (At.mono z1 (hU ii)).cell 5 rfl
      have hcw6 := fun ii => (At.mono z1 (hU ii)).cell 6 rfl
      have hcw7 := fun ii => (At.mono z1 (hU ii)).cell 7 rfl
      have hcw8 := fun ii => (At.mono z2 (hU ii)).cell 0 rfl
      have hcw9 := fun ii => (At.mono z2 (hU ii)).cell 1 rfl
      have hcw10 := fun ii => (At.mono z2 (hU ii)).cell 2 rfl
      go_big_quiet_op
      clear hU hne hcw0 hcw1 hcw2 hcw3 hcw4 hcw5 hcw6 hcw7 hcw8 hcw9 hcw10 U ι
      show wpAnyM _ _ _ _ _ _ _ _ _
      refine mix_quiet Keeps.ext 3 rfl (by kernel_rfl) rfl ?_
      intro ι U hne hU
      have hcw0 := fun ii => (At.mono z1 (hU ii)).cell 0 rfl
      have hcw1 := fun ii => (At.mono z1 (hU ii)).cell 1 rfl
      have hcw2 := fun ii => (At.mono z1 (hU ii)).cell 2 rfl
      have hcw3 := fun ii => (At.mono z1 (hU ii)).cell 3 rfl
      have hcw4 := fun ii => (At.mono z1 (hU ii)).cell 4 rfl
      have hcw5 := fun ii => (At.mono z1 (hU ii)).cell 5 rfl
      have hcw6 := fun ii => (At.mono z1 (hU ii)).cell 6 rfl
      have hcw7 := fun ii => (At.mono z1 (hU ii)).cell 7 rfl
      have hcw8 := fun ii => (At.mono z2 (hU ii)).cell 0 rfl
      have hcw9 := fun ii => (At.mono z2 (hU ii)).cell 1 rfl
      have hcw10 := fun ii => (At.mono z2 (hU ii)).cell 2 rfl
      go_big_quiet_op
      clear hU hne hcw0 hcw1 hcw2 hcw3 hcw4 hcw5 hcw6 hcw7 hcw8 hcw9 hcw10 U ι
      show wpAnyM _ _ _ _ _ _ _ _ _
      refine mix_quiet Keeps.ext 5 rfl (by kernel_rfl) rfl ?_
      intro ι U hne hU
      have hcw0 := fun ii => (At.mono z1 (hU ii)).cell 0 rfl
      have hcw1 := fun ii => (At.mono z1 (hU ii)).cell 1 rfl
      have hcw2 := fun ii => (At.mono z1 (hU ii)).cell 2 rfl
      have hcw3 := fun ii => (At.mono z1 (hU ii)).cell 3 rfl
      have hcw4 := fun ii => (At.mono z1 (hU ii)).cell 4 rfl
      have hcw5 := fun ii => (At.mono z1 (hU ii)).cell 5 rfl
      have hcw6 := fun ii => (At.mono z1 (hU ii)).cell 6 rfl
      have hcw7 := fun ii => (At.mono z1 (hU ii)).cell 7 rfl
      have hcw8 := fun ii => (At.mono z2 (hU ii)).cell 0 rfl
      have hcw9 := fun ii => (At.mono z2 (hU ii)).cell 1 rfl
      have hcw10 := fun ii => (At.mono z2 (hU ii)).cell 2 rfl
      go_big_quiet_op
      clear hU hne hcw0 hcw1 hcw2 hcw3 hcw4 hcw5 hcw6 hcw7 hcw8 hcw9 hcw10 U ι
      show wpAnyM _ _ _ _ _ _ _ _ _
      refine mix_quiet Keeps.ext 6 rfl (by kernel_rfl) rfl ?_
      intro ι U hne hU
      have hcw0 := fun ii => (At.mono z1 (hU ii)).cell 0 rfl
      have hcw1 := fun ii => (At.mono z1 (hU ii)).cell 1 rfl
      have hcw2 := fun ii => (At.mono z1 (hU ii)).cell 2 rfl
      have hcw3 := fun ii => (At.mono z1 (hU ii)).cell 3 rfl
      have hcw4 := fun ii => (At.mono z1 (hU ii)).cell 4 rfl
      have hcw5 := fun ii => (At.mono z1 (hU ii)).cell 5 rfl
      have hcw6 := fun ii => (At.mono z1 (hU ii)).cell 6 rfl
      have hcw7 := fun ii => (At.mono z1 (hU ii)).cell 7 rfl
      have hcw8 := fun ii => (At.mono z2 (hU ii)).cell 0 rfl
      have hcw9 := fun ii => (At.mono z2 (hU ii)).cell 1 rfl
      have hcw10 := fun ii => (At.mono z2 (hU ii)).cell 2 rfl
      go_big_quiet_op
      clear hU hne hcw0 hcw1 hcw2 hcw3 hcw4 hcw5 hcw6 hcw7 hcw8 hcw9 hcw10 U ι
      show wpAnyM _ _ _ _ _ _ _ _ _
      refine mix_any 4 rfl (by kernel_rfl) rfl ?_
      go_wp2_with (first | (at_make; refine Stop.un ?_) | (at_builtin; refine Stop.un ?_) | (with_reducible refine Stop.conv 40 9 ?_) | (with_reducible refine Stop.conv 9 40 ?_))
      refine (HE.out _).mono ?_
      rintro e wq1 ⟨rfl, bq1⟩
      go_wp2_with (first | (at_make; refine Stop.un ?_) | (at_builtin; refine Stop.un ?_) | (with_reducible refine Stop.conv 40 9 ?_) | (with_reducible refine Stop.conv 9 40 ?_))
      refine MixPost.mk bq1 ?_
      replace z1 := At.mono z1 bq1
      replace z2 := At.mono z2 bq1
      replace BB := Below.next BB bq1
      clear bq1
      refine mix_any 7 rfl (by kernel_rfl) rfl ?_
      go_wp2_with (first | (at_make; refine Stop.un ?_) | (at_builtin; refine Stop.un ?_) | (with_reducible refine Stop.conv 40 9 ?_) | (with_reducible refine Stop.conv 9 40 ?_))
      refine (HRE.out _).mono ?_
      rintro e wq2 ⟨rfl, bq2⟩
      go_wp2_with (first | (at_make; refine Stop.un ?_) | (at_builtin; refine Stop.un ?_) | (with_reducible refine Stop.conv 40 9 ?_) | (with_reducible refine Stop.conv 9 40 ?_))
      refine MixPost.mk bq2 ?_
      replace z1 := At.mono z1 bq2
      replace z2 := At.mono z2 bq2
      replace BB := Below.next BB bq2
      clear bq2
      refine mix_quiet Keeps.ext 8 rfl (by kernel_rfl) rfl ?_
      intro ι U hne hU
      refine quiet_as _ (exec_eqT ⟨_, _, _⟩ rfl rfl) (hne.elim fun ii => ⟨_, ii, rfl⟩) ?_
      go_big_quiet_op
      clear hU hne U ι
      show wpAnyM _ _ _ _ _ _ _ _ _
      refine mix_quiet Keeps.ext 9 rfl (by kernel_rfl) rfl ?_
      intro ι U hne hU
      go_big_quiet_op
      clear hU hne U ι
      show wpAnyM _ _ _ _ _ _ _ _ _
      refine mix_quiet Keeps.ext 10 rfl (by kernel_rfl) rfl ?_
      intro ι U hne hU
      go_big_quiet_op
      clear hU hne U ι
      show wpAnyM _ _ _ _ _ _ _ _ _
      refine mix_quiet Keeps.ext 11 rfl (by kernel_rfl) rfl ?_
      intro ι U hne hU
      have hcw0 := fun ii => (At.mono z1 (hU ii)).cell 0 rfl
      have hcw1 := fun ii => (At.mono z1 (hU ii)).cell 1 rfl
      have hcw2 := fun ii => (At.mono z1 (hU ii)).cell 2 rfl
      have hcw3 := fun ii => (At.mono z1 (hU ii)).cell 3 rfl
      have hcw4 := fun ii => (At.mono z1 (hU ii)).cell 4 rfl
      have hcw5 := fun ii => (At.mono z1 (hU ii)).cell 5 rfl
      have hcw6 := fun ii => (At.mono z1 (hU ii)).cell 6 rfl
      have hcw7 := fun ii => (At.mono z1 (hU ii)).cell 7 rfl
      have hcw8 := fun ii => (At.mono z2 (hU ii)).cell 0 rfl
      have hcw9 := fun ii => (At.mono z2 (hU ii)).cell 1 rfl
      have hcw10 := fun ii => (At.mono z2 (hU ii)).cell 2 rfl
      go_big_quiet_op
      clear hU hne hcw0 hcw1 hcw2 hcw3 hcw4 hcw5 hcw6 hcw7 hcw8 hcw9 hcw10 U ι
      show wpAnyM _ _ _ _ _ _ _ _ _
      refine mix_quiet Keeps.ext 12 rfl (by kernel_rfl) rfl ?_
      intro ι U hne hU
      have hcw0 := fun ii => (At.mono z1 (hU ii)).cell 0 rfl
      have hcw1 := fun ii => (At.mono z1 (hU ii)).cell 1 rfl
      have hcw2 := fun ii => (At.mono z1 (hU ii)).cell 2 rfl
      have hcw3 := fun ii => (At.mono z1 (hU ii)).cell 3 rfl
      have hcw4 := fun ii => (At.mono z1 (hU ii)).cell 4 rfl
      have hcw5 := fun ii => (At.mono z1 (hU ii)).cell 5 rfl
      have hcw6 := fun ii => (At.mono z1 (hU ii)).cell 6 rfl
      have hcw7 := fun ii => (At.mono z1 (hU ii)).cell 7 rfl
      have hcw8 := fun ii => (At.mono z2 (hU ii)).cell 0 rfl
      have hcw9 := fun ii => (At.mono z2 (hU ii)).cell 1 rfl
      have hcw10 := fun ii => (At.mono z2 (hU ii)).cell 2 rfl
      go_big_quiet_op
      clear hU hne hcw0 hcw1 hcw2 hcw3 hcw4 hcw5 hcw6 hcw7 hcw8 hcw9 hcw10 U ι
      show wpAnyM _ _ _ _ _ _ _ _ _
      refine mix_quiet Keeps.ext 14 rfl (by kernel_rfl) rfl ?_
      intro ι U hne hU
      have hcw0 := fun ii => (At.mono z1 (hU ii)).cell 0 rfl
      have hcw1 := fun ii => (At.mono z1 (hU ii)).cell 1 rfl
      have hcw2 := fun ii => (At.mono z1 (hU ii)).cell 2 rfl
      have hcw3 := fun ii => (At.mono z1 (hU ii)).cell 3 rfl
      have hcw4 := fun ii => (At.mono z1 (hU ii)).cell 4 rfl
      have hcw5 := fun ii => (At.mono z1 (hU ii)).cell 5 rfl
      have hcw6 := fun ii => (At.mono z1 (hU ii)).cell 6 rfl
      have hcw7 := fun ii => (At.mono z1 (hU ii)).cell 7 rfl
      have hcw8 := fun ii => (At.mono z2 (hU ii)).cell 0 rfl
      have hcw9 := fun ii => (At.mono z2 (hU ii)).cell 1 rfl
      have hcw10 := fun ii => (At.mono z2 (hU ii)).cell 2 rfl
      go_big_quiet_op
      clear hU hne hcw0 hcw1 hcw2 hcw3 hcw4 hcw5 hcw6 hcw7 hcw8 hcw9 hcw10 U ι
      show wpAnyM _ _ _ _ _ _ _ _ _
      refine mix_quiet Keeps.ext 15 rfl (by kernel_rfl) rfl ?_
      intro ι U hne hU
      have hcw0 := fun ii => (At.mono z1 (hU ii)).cell 0 rfl
      have hcw1 := fun ii => (At.mono z1 (hU ii)).cell 1 rfl
      have hcw2 := fun ii => (At.mono z1 (hU ii)).cell 2 rfl
      have hcw3 := fun ii => (At.mono z1 (hU ii)).cell 3 rfl
      have hcw4 := fun ii => (At.mono z1 (hU ii)).cell 4 rfl
      have hcw5 := fun ii => (At.mono z1 (hU ii)).cell 5 rfl
      have hcw6 := fun ii => (At.mono z1 (hU ii)).cell 6 rfl
      have hcw7 := fun ii => (At.mono z1 (hU ii)).cell 7 rfl
      have hcw8 := fun ii => (At.mono z2 (hU ii)).cell 0 rfl
      have hcw9 := fun ii => (At.mono z2 (hU ii)).cell 1 rfl
      have hcw10 := fun ii => (At.mono z2 (hU ii)).cell 2 rfl
      go_big_quiet_op
      clear hU hne hcw0 hcw1 hcw2 hcw3 hcw4 hcw5 hcw6 hcw7 hcw8 hcw9 hcw10 U ι
      show wpAnyM _ _ _ _ _ _ _ _ _
      refine mix_any 13 rfl (by kernel_rfl) rfl ?_
      go_wp2_with (first | (at_make; refine Stop.un ?_) | (at_builtin; refine Stop.un ?_) | (with_reducible refine Stop.conv 40 9 ?_) | (with_reducible refine Stop.conv 9 40 ?_))
      refine (HL.out _).mono ?_
      rintro e wq3 ⟨rfl, bq3⟩
      go_wp2_with (first | (at_make; refine Stop.un ?_) | (at_builtin; refine Stop.un ?_) | (with_reducible refine Stop.conv 40 9 ?_) | (with_reducible refine Stop.conv 9 40 ?_))
      refine MixPost.mk bq3 ?_
      replace z1 := At.mono z1 bq3
      replace z2 := At.mono z2 bq3
      replace BB := Below.next BB bq3
      clear bq3
      refine mix_any 16 rfl (by kernel_rfl) rfl ?_
      go_wp2_with (first | (at_make; refine Stop.un ?_) | (at_builtin; refine Stop.un ?_) | (with_reducible refine Stop.conv 40 9 ?_) | (with_reducible refine Stop.conv 9 40 ?_))
      refine (HRL.out _).mono ?_
      rintro e wq4 ⟨rfl, bq4⟩
      go_wp2_with (first | (at_make; refine Stop.un ?_) | (at_builtin; refine Stop.un ?_) | (with_reducible refine Stop.conv 40 9 ?_) | (with_reducible refine Stop.conv 9 40 ?_))
      refine MixPost.mk bq4 ?_
      replace z1 := At.mono z1 bq4
      replace z2 := At.mono z2 bq4
      replace BB := Below.next BB bq4
      clear bq4
      refine mix_quiet Keeps.ext 17 rfl (by kernel_rfl) rfl ?_
      intro ι U hne hU
      refine quiet_as _ (exec_eqT ⟨_, _, _⟩ rfl rfl) (hne.elim fun ii => ⟨_, ii, rfl⟩) ?_
      go_big_quiet_op
      clear hU hne U ι
      show wpAnyM _ _ _ _ _ _ _ _ _
      refine mix_quiet Keeps.ext 18 rfl (by kernel_rfl) rfl ?_
      intro ι U hne hU
      go_big_quiet_op
      clear hU hne U ι
      show wpAnyM _ _ _ _ _ _ _ _ _
      refine mix_quiet Keeps.ext 19 rfl (by kernel_rfl) rfl ?_
      intro ι U hne hU
      go_big_quiet_op
      clear hU hne U ι
      show wpAnyM _ _ _ _ _ _ _ _ _
      refine mix_quiet Keeps.ext 20 rfl (by kernel_rfl) rfl ?_
      intro ι U hne hU
      have hcw0 := fun ii => (At.mono z1 (hU ii)).cell 0 rfl
      have hcw1 := fun ii => (At.mono z1 (hU ii)).cell 1 rfl
      have hcw2 := fun ii => (At.mono z1 (hU ii)).cell 2 rfl
      have hcw3 := fun ii => (At.mono z1 (hU ii)).cell 3 rfl
      have hcw4 := fun ii => (At.mono z1 (hU ii)).cell 4 rfl
      have hcw5 := fun ii => (At.mono z1 (hU ii)).cell 5 rfl
      have hcw6 := fun ii => (At.mono z1 (hU ii)).cell 6 rfl
      have hcw7 := fun ii => (At.mono z1 (hU ii)).cell 7 rfl
      have hcw8 := fun ii => (At.mono z2 (hU ii)).cell 0 rfl
      have hcw9 := fun ii => (At.mono z2 (hU ii)).cell 1 rfl
      have hcw10 := fun ii => (At.mono z2 (hU ii)).cell 2 rfl
      go_big_quiet_op
      clear hU hne hcw0 hcw1 hcw2 hcw3 hcw4 hcw5 hcw6 hcw7 hcw8 hcw9 hcw10 U ι
      show wpAnyM _ _ _ _ _ _ _ _ _
      refine mix_quiet Keeps.ext 22 rfl (by kernel_rfl) rfl ?_
      intro ι U hne hU
      have hcw0 := fun ii => (At.mono z1 (hU ii)).cell 0 rfl
      have hcw1 := fun ii => (At.mono z1 (hU ii)).cell 1 rfl
      have hcw2 := fun ii => (At.mono z1 (hU ii)).cell 2 rfl
      have hcw3 := fun ii => (At.mono z1 (hU ii)).cell 3 rfl
      have hcw4 := fun ii => (At.mono z1 (hU ii)).cell 4 rfl
      have hcw5 := fun ii => (At.mono z1 (hU ii)).cell 5 rfl
      have hcw6 := fun ii => (At.mono z1 (hU ii)).cell 6 rfl
      have hcw7 := fun ii => (At.mono z1 (hU ii)).cell 7 rfl
      have hcw8 := fun ii => (At.mono z2 (hU ii)).cell 0 rfl
      have hcw9 := fun ii => (At.mono z2 (hU ii)).cell 1 rfl
      have hcw10 := fun ii => (At.mono z2 (hU ii)).cell 2 rfl
      go_big_quiet_op
      clear hU hne hcw0 hcw1 hcw2 hcw3 hcw4 hcw5 hcw6 hcw7 hcw8 hcw9 hcw10 U ι
      show wpAnyM _ _ _ _ _ _ _ _ _
      refine mix_any 21 rfl (by kernel_rfl) rfl ?_
      go_wp2_with (first | (at_make; refine Stop.un ?_) | (at_builtin; refine Stop.un ?_) | (with_reducible refine Stop.conv 40 9 ?_) | (with_reducible refine Stop.conv 9 40 ?_))
      refine (HN.out _).mono ?_
      rintro e wq5 ⟨rfl, bq5⟩
      go_wp2_with (first | (at_make; refine Stop.un ?_) | (at_builtin; refine Stop.un ?_) | (with_reducible refine Stop.conv 40 9 ?_) | (with_reducible refine Stop.conv 9 40 ?_))
      refine MixPost.mk bq5 ?_
      replace z1 := At.mono z1 bq5
      replace z2 := At.mono z2 bq5
      replace BB := Below.next BB bq5
      clear bq5
      refine mix_any 23 rfl (by kernel_rfl) rfl ?_
      go_wp2_with (first | (at_make; refine Stop.un ?_) | (at_builtin; refine Stop.un ?_) | (with_reducible refine Stop.conv 40 9 ?_) | (with_reducible refine Stop.conv 9 40 ?_))
      refine (HRN.out _).mono ?_
      rintro e wq6 ⟨rfl, bq6⟩
      go_wp2_with (first | (at_make; refine Stop.un ?_) | (at_builtin; refine Stop.un ?_) | (with_reducible refine Stop.conv 40 9 ?_) | (with_reducible refine Stop.conv 9 40 ?_))
      refine MixPost.mk bq6 ?_
      replace z1 := At.mono z1 bq6
      replace z2 := At.mono z2 bq6
      replace BB := Below.next BB bq6
      clear bq6
      refine mix_quiet Keeps.ext 24 rfl (by kernel_rfl) rfl ?_
      intro ι U hne hU
      refine quiet_as _ (exec_eqT ⟨_, _, _⟩ rfl rfl) (hne.elim fun ii => ⟨_, ii, rfl⟩) ?_
      go_big_quiet_op
      clear hU hne U ι
      show wpAnyM _ _ _ _ _ _ _ _ _
      refine mix_quiet Keeps.ext 25 rfl (by kernel_rfl) rfl ?_
      intro ι U hne hU
      go_big_quiet_op
      clear hU hne U ι
      show wpAnyM _ _ _ _ _ _ _ _ _
      refine mix_quiet Keeps.ext 26 rfl (by kernel_rfl) rfl ?_
      intro ι U hne hU
      go_big_quiet_op
      clear hU hne U ι
      show wpAnyM _ _ _ _ _ _ _ _ _
      refine mix_end (by kernel_rfl) ?_
      go_wp2_with (first | (at_make; refine Stop.un ?_) | (at_builtin; refine Stop.un ?_) | (with_reducible refine Stop.conv 40 9 ?_) | (with_reducible refine Stop.conv 9 40 ?_))
      go_ret
      exact ⟨rfl, BB⟩
    ·
      have hs2 : (1100 : Int) < s2.size := by omega
      go_wp2_with (first | (at_make; refine Stop.un ?_) | (at_builtin; refine Stop.un ?_) | (with_reducible refine Stop.conv 40 9 ?_) | (with_reducible refine Stop.conv 9 40 ?_))
      go_ret
      exact ⟨rfl, BB⟩
end Go.Proofs.Ytdpmaocbfmgmlaa
