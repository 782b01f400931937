/- ZoneOf. -/
import Derived.Test.YtdpmaocbfmgmlaaZShown
set_option linter.unusedVariables false
set_option linter.unusedSimpArgs false
namespace Go.Proofs.Ytdpmaocbfmgmlaa
open Go.RowKit
def Zn.ok (z : Zn) : Prop := z.lo.s.size ≤ maxLen ∧ z.hi.s.size ≤ maxLen
theorem vcut {w : World} {ao : Option Addr} {l : List V} (h : Cs w ao (vcells l)) (f : Nat) : Cs w ao (vcells (l.take f)) := by
  rw [← vcells_take]; exact h.take _
set_option maxRecDepth 100000 in
set_option maxHeartbeats 8000000 in
theorem zoneOf_any (ao : Option Addr) (m cap : Nat) (l : List V) (a b : Zn) (w : World) (hc : Cs w ao (vcells l)) (hm : l.length = m) (hl : m ≤ cap) (hcm : cap ≤ maxLen) (ha : a.ok) (hb : b.ok) :
    Calls Try.prog 3 #[.slice ao m cap, a.val, b.val] w (fun e w' => e = .returned (.bool true) ∧ Below w.heap.size w w') := by
  have HS1 := Lib.hid (fun w => short_any a w ha.1 ha.2)
  have HS2 := Lib.hid (fun w => short_any b w hb.1 hb.2)
  generalize decide (a.lo.s.size ≤ 1100 ∧ a.hi.s.size ≤ 1100) = p1 at HS1
  generalize decide (b.lo.s.size ≤ 1100 ∧ b.hi.s.size ≤ 1100) = p2 at HS2
  have HFEW := Lib.hid (fun w hc => few_any ao m cap l w hc hm hl hcm)
  have hf : fewN 0 l ≤ m := hm ▸ fewN_le l 0
  generalize fewN 0 l = f at hf HFEW
  have HOF := Lib.hid (fun w hc => zof_any ao f cap (l.take f) w hc (by simp; omega) (by omega) hcm)
  have HROF := Lib.hid (fun w hc => rof_any ao f cap (l.take f) w hc (by simp; omega) (by omega) hcm)
  have hc2 := vcut hc f
  generalize ofZ (l.take f) = zl at HOF HROF
  generalize vcells (l.take f) = vl at HOF HROF hc2
  have HM := Lib.hid (fun w => merge_any a b w)
  have HRM := Lib.hid (fun w => rmerge_any a b w)
  generalize mergeZ a b = y at HM HRM
  clear ha hb hm hl hcm hf
  obtain ⟨⟨k, n, s⟩, ⟨k', n', s'⟩, nu, ma⟩ := a
  obtain ⟨⟨k2, n2, s2⟩, ⟨k2', n2', s2'⟩, nu2, ma2⟩ := b
  obtain ⟨⟨k3, n3, s3⟩, ⟨k3', n3', s3'⟩, nu3, ma3⟩ := zl
  obtain ⟨⟨k4, n4, s4⟩, ⟨k4', n4', s4'⟩, nu4, ma4⟩ := y
  simp only [Zn.val] at HS1 HS2 HOF HROF HM HRM ⊢
  go_enter Try.func3, Try.ntmps3
  go_wp2_with (first | (at_make; refine Stop.un ?_) | (at_builtin; refine Stop.un ?_) | (with_reducible refine Stop.conv 40 9 ?_) | (with_reducible refine Stop.conv 9 40 ?_))
  refine (shown_any _).mono ?_
  rintro e w1 ⟨rfl, b1⟩
  have z1 : At ((w.alloc (.cells #[.int .u8 k, .int .i64 n, .string s, .int .u8 k', .int .i64 n', .string s', .int .i64 nu, .int .i64 ma] 26)).alloc (.cells #[.int .u8 k2, .int .i64 n2, .string s2, .int .u8 k2', .int .i64 n2', .string s2', .int .i64 nu2, .int .i64 ma2] 26)) (w.heap.size) #[.int .u8 k, .int .i64 n, .string s, .int .u8 k', .int .i64 n', .string s', .int .i64 nu, .int .i64 ma] 26 := by simpa only [World.size_alloc, Nat.add_assoc, Nat.reduceAdd] using (At.new w #[.int .u8 k, .int .i64 n, .string s, .int .u8 k', .int .i64 n', .string s', .int .i64 nu, .int .i64 ma] 26).alloc (.cells #[.int .u8 k2, .int .i64 n2, .string s2, .int .u8 k2', .int .i64 n2', .string s2', .int .i64 nu2, .int .i64 ma2] 26)
  have z2 : At ((w.alloc (.cells #[.int .u8 k, .int .i64 n, .string s, .int .u8 k', .int .i64 n', .string s', .int .i64 nu, .int .i64 ma] 26)).alloc (.cells #[.int .u8 k2, .int .i64 n2, .string s2, .int .u8 k2', .int .i64 n2', .string s2', .int .i64 nu2, .int .i64 ma2] 26)) (w.heap.size + 1) #[.int .u8 k2, .int .i64 n2, .string s2, .int .u8 k2', .int .i64 n2', .string s2', .int .i64 nu2, .int .i64 ma2] 26 := by simpa only [World.size_alloc, Nat.add_assoc, Nat.reduceAdd] using At.new (w.alloc (.cells #[.int .u8 k, .int .i64 n, .string s, .int .u8 k', .int .i64 n', .string s', .int .i64 nu, .int .i64 ma] 26)) #[.int .u8 k2, .int .i64 n2, .string s2, .int .u8 k2', .int .i64 n2', .string s2', .int .i64 nu2, .int .i64 ma2] 26
  have BB : Below w.heap.size w ((w.alloc (.cells #[.int .u8 k, .int .i64 n, .string s, .int .u8 k', .int .i64 n', .string s', .int .i64 nu, .int .i64 ma] 26)).alloc (.cells #[.int .u8 k2, .int .i64 n2, .string s2, .int .u8 k2', .int .i64 n2', .string s2', .int .i64 nu2, .int .i64 ma2] 26)) := Below.alloc (Below.alloc (Below.refl w.heap.size w) (by (try simp only [World.size_alloc]) <;> omega) (.cells #[.int .u8 k, .int .i64 n, .string s, .int .u8 k', .int .i64 n', .string s', .int .i64 nu, .int .i64 ma] 26)) (by (try simp only [World.size_alloc]) <;> omega) (.cells #[.int .u8 k2, .int .i64 n2, .string s2, .int .u8 k2', .int .i64 n2', .string s2', .int .i64 nu2, .int .i64 ma2] 26)
  have c1 := (hc.mono BB (Nat.le_refl _))
  have c2 := (hc2.mono BB (Nat.le_refl _))
  clear hc hc2
  replace z1 := At.mono z1 b1
  replace z2 := At.mono z2 b1
  replace BB := Below.next BB b1
  replace c1 := Cs.mono c1 b1 (Nat.le_refl _)
  replace c2 := Cs.mono c2 b1 (Nat.le_refl _)
  clear b1
  have x0 := z1.cell 0 rfl
  have x1 := z1.cell 1 rfl
  have x2 := z1.cell 2 rfl
  have x3 := z1.cell 3 rfl
  have x4 := z1.cell 4 rfl
  have x5 := z1.cell 5 rfl
  have x6 := z1.cell 6 rfl
  have x7 := z1.cell 7 rfl
  have xl := z1.lt
  have y0 := z2.cell 0 rfl
  have y1 := z2.cell 1 rfl
  have y2 := z2.cell 2 rfl
  have y3 := z2.cell 3 rfl
  have y4 := z2.cell 4 rfl
  have y5 := z2.cell 5 rfl
  have y6 := z2.cell 6 rfl
  have y7 := z2.cell 7 rfl
  have yl := z2.lt
  go_wp2_with (first | (at_make; refine Stop.un ?_) | (at_builtin; refine Stop.un ?_) | (with_reducible refine Stop.conv 40 9 ?_) | (with_reducible refine Stop.conv 9 40 ?_))
  refine (HS1.out _).mono ?_
  rintro e w2 ⟨rfl, b2⟩
  clear x0 x1 x2 x3 x4 x5 x6 x7 y0 y1 y2 y3 y4 y5 y6 y7 xl yl
  replace z1 := At.mono z1 b2
  replace z2 := At.mono z2 b2
  replace BB := Below.next BB b2
  replace c1 := Cs.mono c1 b2 (Nat.le_refl _)
  replace c2 := Cs.mono c2 b2 (Nat.le_refl _)
  clear b2
  have x0 := z1.cell 0 rfl
  have x1 := z1.cell 1 rfl
  have x2 := z1.cell 2 rfl
  have x3 := z1.cell 3 rfl
  have x4 := z1.cell 4 rfl
  have x5 := z1.cell 5 rfl
  have x6 := z1.cell 6 rfl
  have x7 := z1.cell 7 rfl
  have xl := z1.lt
  have y0 := z2.cell 0 rfl
  have y1 := z2.cell 1 rfl
  have y2 := z2.cell 2 rfl
  have y3 := z2.cell 3 rfl
  have y4 := z2.cell 4 rfl
  have y5 := z2.cell 5 rfl
  have y6 := z2.cell 6 rfl
  have y7 := z2.cell 7 rfl
  have yl := z2.lt
  cases p1 with
  | false =>
    go_wp2_with (first | (at_make; refine Stop.un ?_) | (at_builtin; refine Stop.un ?_) | (with_reducible refine Stop.conv 40 9 ?_) | (with_reducible refine Stop.conv 9 40 ?_))
    go_ret
    exact ⟨rfl, BB⟩
  | true =>
    go_wp2_with (first | (at_make; refine Stop.un ?_) | (at_builtin; refine Stop.un ?_) | (with_reducible refine Stop.conv 40 9 ?_) | (with_reducible refine Stop.conv 9 40 ?_))
    refine (HS2.out _).mono ?_
    rintro e w3 ⟨rfl, b3⟩
    clear x0 x1 x2 x3 x4 x5 x6 x7 y0 y1 y2 y3 y4 y5 y6 y7 xl yl
    replace z1 := At.mono z1 b3
    replace z2 := At.mono z2 b3
    replace BB := Below.next BB b3
    replace c1 := Cs.mono c1 b3 (Nat.le_refl _)
    replace c2 := Cs.mono c2 b3 (Nat.le_refl _)
    clear b3
    cases p2 with
    | false =>
      go_wp2_with (first | (at_make; refine Stop.un ?_) | (at_builtin; refine Stop.un ?_) | (with_reducible refine Stop.conv 40 9 ?_) | (with_reducible refine Stop.conv 9 40 ?_))
      go_ret
      exact ⟨rfl, BB⟩
    | true =>
      go_wp2_with (first | (at_make; refine Stop.un ?_) | (at_builtin; refine Stop.un ?_) | (with_reducible refine Stop.conv 40 9 ?_) | (with_reducible refine Stop.conv 9 40 ?_))
      refine mix_startE 20 rfl (by kernel_rfl) ?_
      intro xq hxq
      replace z1 := At.mono z1 hxq
      replace z2 := At.mono z2 hxq
      replace BB := Below.next BB hxq
      replace c1 := Cs.mono c1 hxq (Nat.le_refl _)
      replace c2 := Cs.mono c2 hxq (Nat.le_refl _)
      clear hxq
      refine mix_quiet Keeps.ext 0 rfl (by kernel_rfl) rfl ?_
      intro ι U hne hU
      go_big_quiet_op
      clear hU hne U ι
      show wpAnyM _ _ _ _ _ _ _ _ _
      refine mix_quiet Keeps.ext 1 rfl (by kernel_rfl) rfl ?_
      intro ι U hne hU
      go_big_quiet_op
      clear hU hne U ι
      show wpAnyM _ _ _ _ _ _ _ _ _
      refine mix_quiet Keeps.ext 2 rfl (by kernel_rfl) rfl ?_
      intro ι U hne hU
      go_big_quiet_op
      clear hU hne U ι
      show wpAnyM _ _ _ _ _ _ _ _ _
      refine mix_quiet Keeps.ext 5 rfl (by kernel_rfl) rfl ?_
      intro ι U hne hU
      go_big_quiet_op
      clear hU hne U ι
      show wpAnyM _ _ _ _ _ _ _ _ _
      refine mix_any 3 rfl (by kernel_rfl) rfl ?_
      go_wp2_with (first | (at_make; refine Stop.un ?_) | (at_builtin; refine Stop.un ?_) | (with_reducible refine Stop.conv 40 9 ?_) | (with_reducible refine Stop.conv 9 40 ?_))
      refine (HFEW.out _ c1).mono ?_
      rintro e wq1 ⟨rfl, rfl⟩
      go_wp2_with (first | (at_make; refine Stop.un ?_) | (at_builtin; refine Stop.un ?_) | (with_reducible refine Stop.conv 40 9 ?_) | (with_reducible refine Stop.conv 9 40 ?_))
      refine MixPost.mk (Ext.refl _) ?_
      refine mix_any 4 rfl (by kernel_rfl) rfl ?_
      go_wp2_with (first | (at_make; refine Stop.un ?_) | (at_builtin; refine Stop.un ?_) | (with_reducible refine Stop.conv 40 9 ?_) | (with_reducible refine Stop.conv 9 40 ?_))
      refine (HOF.out _ c2).mono ?_
      rintro e wq2 ⟨rfl, bq2⟩
      go_wp2_with (first | (at_make; refine Stop.un ?_) | (at_builtin; refine Stop.un ?_) | (with_reducible refine Stop.conv 40 9 ?_) | (with_reducible refine Stop.conv 9 40 ?_))
      refine MixPost.mk bq2 ?_
      replace z1 := At.mono z1 bq2
      replace z2 := At.mono z2 bq2
      replace BB := Below.next BB bq2
      replace c1 := Cs.mono c1 bq2 (Nat.le_refl _)
      replace c2 := Cs.mono c2 bq2 (Nat.le_refl _)
      clear bq2
      refine mix_any 6 rfl (by kernel_rfl) rfl ?_
      go_wp2_with (first | (at_make; refine Stop.un ?_) | (at_builtin; refine Stop.un ?_) | (with_reducible refine Stop.conv 40 9 ?_) | (with_reducible refine Stop.conv 9 40 ?_))
      refine (HFEW.out _ c1).mono ?_
      rintro e wq3 ⟨rfl, rfl⟩
      go_wp2_with (first | (at_make; refine Stop.un ?_) | (at_builtin; refine Stop.un ?_) | (with_reducible refine Stop.conv 40 9 ?_) | (with_reducible refine Stop.conv 9 40 ?_))
      refine MixPost.mk (Ext.refl _) ?_
      refine mix_any 7 rfl (by kernel_rfl) rfl ?_
      go_wp2_with (first | (at_make; refine Stop.un ?_) | (at_builtin; refine Stop.un ?_) | (with_reducible refine Stop.conv 40 9 ?_) | (with_reducible refine Stop.conv 9 40 ?_))
      refine (HROF.out _ c2).mono ?_
      rintro e wq4 ⟨rfl, bq4⟩
      go_wp2_with (first | (at_make; refine Stop.un ?_) | (at_builtin; refine Stop.un ?_) | (with_reducible refine Stop.conv 40 9 ?_) | (with_reducible refine Stop.conv 9 40 ?_))
      refine MixPost.mk bq4 ?_
      replace z1 := At.mono z1 bq4
      replace z2 := At.mono z2 bq4
      replace BB := Below.next BB bq4
      replace c1 := Cs.mono c1 bq4 (Nat.le_refl _)
      replace c2 := Cs.mono c2 bq4 (Nat.le_refl _)
      clear bq4
      refine mix_quiet Keeps.ext 8 rfl (by kernel_rfl) rfl ?_
      intro ι U hne hU
      refine quiet_as _ (exec_eqZ ⟨⟨_, _, _⟩, ⟨_, _, _⟩, _, _⟩ rfl rfl) (hne.elim fun ii => ⟨_, ii, rfl⟩) ?_
      go_big_quiet_op
      clear hU hne U ι
      show wpAnyM _ _ _ _ _ _ _ _ _
      refine mix_quiet Keeps.ext 9 rfl (by kernel_rfl) rfl ?_
      intro ι U hne hU
      go_big_quiet_op
      clear hU hne U ι
      show wpAnyM _ _ _ _ _ _ _ _ _
      refine mix_quiet Keeps.ext 10 rfl (by kernel_rfl) rfl ?_
      intro ι U hne hU
      go_big_quiet_op
      clear hU hne U ι
      show wpAnyM _ _ _ _ _ _ _ _ _
      refine mix_quiet Keeps.ext 11 rfl (by kernel_rfl) rfl ?_
      intro ι U hne hU
      have hcw0 := fun ii => (At.mono z1 (hU ii)).cell 0 rfl
      have hcw1 := fun ii => (At.mono z1 (hU ii)).cell 1 rfl
      have hcw2 := fun ii => (At.mono z1 (hU ii)).cell 2 rfl
      have hcw3 := fun ii => (At.mono z1 (hU ii)).cell 3 rfl
      have hcw4 := fun ii => (At.mono z1 (hU ii)).cell 4 rfl
      have hcw5 := fun ii => (At.mono z1 (hU ii)).cell 5 rfl
      have hcw6 := fun ii => (At.mono z1 (hU ii)).cell 6 rfl
      have hcw7 := fun ii => (At.mono z1 (hU ii)).cell 7 rfl
      have hcw8 := fun ii => (At.mono z2 (hU ii)).cell 0 rfl
      have hcw9 := fun ii => (At.mono z2 (hU ii)).cell 1 rfl
      have hcw10 := fun ii => (At.mono z2 (hU ii)).cell 2 rfl
      have hcw11 := fun ii => (At.mono z2 (hU ii)).cell 3 rfl
      have hcw12 := fun ii => (At.mono z2 (hU ii)).cell 4 rfl
      have hcw13 := fun ii => (At.mono z2 (hU ii)).cell 5 rfl
      have hcw14 := fun ii => (At.mono z2 (hU ii)).cell 6 rfl
      have hcw15 := fun ii => (At.mono z2 (hU ii)).cell 7 rfl
      go_big_quiet_op
      clear hU hne hcw0 hcw1 hcw2 hcw3 hcw4 hcw5 hcw6 hcw7 hcw8 hcw9 hcw10 hcw11 hcw12 hcw13 hcw14 hcw15 U ι
      show wpAnyM _ _ _ _ _ _ _ _ _
      refine mix_quiet Keeps.ext 12 rfl (by kernel_rfl) rfl ?_
      intro ι U hne hU
      have hcw0 := fun ii => (At.mono z1 (hU ii)).cell 0 rfl
      have hcw1 := fun ii => (At.mono z1 (hU ii)).cell 1 rfl
      have hcw2 := fun ii => (At.mono z1 (hU ii)).cell 2 rfl
      have hcw3 := fun ii => (At.mono z1 (hU ii)).cell 3 rfl
      have hcw4 := fun ii => (At.mono z1 (hU ii)).cell 4 rfl
      have hcw5 := fun ii => (At.mono z1 (hU ii)).cell 5 rfl
      have hcw6 := fun ii => (At.mono z1 (hU ii)).cell 6 rfl
      have hcw7 := fun ii => (At.mono z1 (hU ii)).cell 7 rfl
      have hcw8 := fun ii => (At.mono z2 (hU ii)).cell 0 rfl
      have hcw9 := fun ii => (At.mono z2 (hU ii)).cell 1 rfl
      have hcw10 := fun ii => (At.mono z2 (hU ii)).cell 2 rfl
      have hcw11 := fun ii => (At.mono z2 (hU ii)).cell 3 rfl
      have hcw12 := fun ii => (At.mono z2 (hU ii)).cell 4 rfl
      have hcw13 := fun ii => (At.mono z2 (hU ii)).cell 5 rfl
      have hcw14 := fun ii => (At.mono z2 (hU ii)).cell 6 rfl
      have hcw15 := fun ii => (At.mono z2 (hU ii)).cell 7 rfl
      go_big_quiet_op
      clear hU hne hcw0 hcw1 hcw2 hcw3 hcw4 hcw5 hcw6 hcw7 hcw8 hcw9 hcw10 hcw11 hcw12 hcw13 hcw14 hcw15 U ι
      show wpAnyM _ _ _ _ _ _ _ _ _
      refine mix_quiet Keeps.ext 14 rfl (by kernel_rfl) rfl ?_
      intro ι U hne hU
      have hcw0 := fun ii => (At.mono z1 (hU ii)).cell 0 rfl
      have hcw1 := fun ii => (At.mono z1 (hU ii)).cell 1 rfl
      have hcw2 := fun ii => (At.mono z1 (hU ii)).cell 2 rfl
      have hcw3 := fun ii => (At.mono z1 (hU ii)).cell 3 rfl
      have hcw4 := fun ii => (At.mono z1 (hU ii)).cell 4 rfl
      have hcw5 := fun ii => (At.mono z1 (hU ii)).cell 5 rfl
      have hcw6 := fun ii => (At.mono z1 (hU ii)).cell 6 rfl
      have hcw7 := fun ii => (At.mono z1 (hU ii)).cell 7 rfl
      have hcw8 := fun ii => (At.mono z2 (hU ii)).cell 0 rfl
      have hcw9 := fun ii => (At.mono z2 (hU ii)).cell 1 rfl
      have hcw10 := fun ii => (At.mono z2 (hU ii)).cell 2 rfl
      have hcw11 := fun ii => (At.mono z2 (hU ii)).cell 3 rfl
      have hcw12 := fun ii => (At.mono z2 (hU ii)).cell 4 rfl
      have hcw13 := fun ii => (At.mono z2 (hU ii)).cell 5 rfl
      have hcw14 := fun ii => (At.mono z2 (hU ii)).cell 6 rfl
      have hcw15 := fun ii => (At.mono z2 (hU ii)).cell 7 rfl
      go_big_quiet_op
      clear hU hne hcw0 hcw1 hcw2 hcw3 hcw4 hcw5 hcw6 hcw7 hcw8 hcw9 hcw10 hcw11 hcw12 hcw13 hcw14 hcw15 U ι
      show wpAnyM _ _ _ _ _ _ _ _ _
      refine mix_quiet Keeps.ext 15 rfl (by kernel_rfl) rfl ?_
      intro ι U hne hU
      have hcw0 := fun ii => (At.mono z1 (hU ii)).cell 0 rfl
      have hcw1 := fun ii => (At.mono z1 (hU ii)).cell 1 rfl
      have hcw2 := fun ii => (At.mono z1 (hU ii)).cell 2 rfl
      have hcw3 := fun ii => (At.mono z1 (hU ii)).cell 3 rfl
      have hcw4 := fun ii => (At.mono z1 (hU ii)).cell 4 rfl
      have hcw5 := fun ii => (At.mono z1 (hU ii)).cell 5 rfl
      have hcw6 := fun ii => (At.mono z1 (hU ii)).cell 6 rfl
      have hcw7 := fun ii => (At.mono z1 (hU ii)).cell 7 rfl
      have hcw8 := fun ii => (At.mono z2 (hU ii)).cell 0 rfl
      have hcw9 := fun ii => (At.mono z2 (hU ii)).cell 1 rfl
      have hcw10 := fun ii => (At.mono z2 (hU ii)).cell 2 rfl
      have hcw11 := fun ii => (At.mono z2 (hU ii)).cell 3 rfl
      have hcw12 := fun ii => (At.mono z2 (hU ii)).cell 4 rfl
      have hcw13 := fun ii => (At.mono z2 (hU ii)).cell 5 rfl
      have hcw14 := fun ii => (At.mono z2 (hU ii)).cell 6 rfl
      have hcw15 := fun ii => (At.mono z2 (hU ii)).cell 7 rfl
      go_big_quiet_op
      clear hU hne hcw0 hcw1 hcw2 hcw3 hcw4 hcw5 hcw6 hcw7 hcw8 hcw9 hcw10 hcw11 hcw12 hcw13 hcw14 hcw15 U ι
      show wpAnyM _ _ _ _ _ _ _ _ _
      refine mix_any 13 rfl (by kernel_rfl) rfl ?_
      go_wp2_with (first | (at_make; refine Stop.un ?_) | (at_builtin; refine Stop.un ?_) | (with_reducible refine Stop.conv 40 9 ?_) | (with_reducible refine Stop.conv 9 40 ?_))
      refine (HM.out _).mono ?_
      rintro e wq5 ⟨rfl, bq5⟩
      go_wp2_with (first | (at_make; refine Stop.un ?_) | (at_builtin; refine Stop.un ?_) | (with_reducible refine Stop.conv 40 9 ?_) | (with_reducible refine Stop.conv 9 40 ?_))
      refine MixPost.mk bq5 ?_
      replace z1 := At.mono z1 bq5
      replace z2 := At.mono z2 bq5
      replace BB := Below.next BB bq5
      replace c1 := Cs.mono c1 bq5 (Nat.le_refl _)
      replace c2 := Cs.mono c2 bq5 (Nat.le_refl _)
      clear bq5
      refine mix_any 16 rfl (by kernel_rfl) rfl ?_
      go_wp2_with (first | (at_make; refine Stop.un ?_) | (at_builtin; refine Stop.un ?_) | (with_reducible refine Stop.conv 40 9 ?_) | (with_reducible refine Stop.conv 9 40 ?_))
      refine (HRM.out _).mono ?_
      rintro e wq6 ⟨rfl, bq6⟩
      go_wp2_with (first | (at_make; refine Stop.un ?_) | (at_builtin; refine Stop.un ?_) | (with_reducible refine Stop.conv 40 9 ?_) | (with_reducible refine Stop.conv 9 40 ?_))
      refine MixPost.mk bq6 ?_
      replace z1 := At.mono z1 bq6
      replace z2 := At.mono z2 bq6
      replace BB := Below.next BB bq6
      replace c1 := Cs.mono c1 bq6 (Nat.le_refl _)
      replace c2 := Cs.mono c2 bq6 (Nat.le_refl _)
      clear bq6
      refine mix_quiet Keeps.ext 17 rfl (by kernel_rfl) rfl ?_
      intro ι U hne hU
      refine quiet_as _ (exec_eqZ ⟨⟨_, _, _⟩, ⟨_, _, _⟩, _, _⟩ rfl rfl) (hne.elim fun ii => ⟨_, ii, rfl⟩) ?_
      go_big_quiet_op
      clear hU hne U ι
      show wpAnyM _ _ _ _ _ _ _ _ _
      refine mix_quiet Keeps.ext 18 rfl (by kernel_rfl) rfl ?_
      intro ι U hne hU
      go_big_quiet_op
      clear hU hne U ι
      show wpAnyM _ _ _ _ _ _ _ _ _
      refine mix_quiet Keeps.ext 19 rfl (by kernel_rfl) rfl ?_
      intro ι U hne hU
      go_big_quiet_op
      clear hU hne U ι
      show wpAnyM _ _ _ _ _ _ _ _ _
      refine mix_end (by kernel_rfl) ?_
      go_wp2_with (first | (at_make; refine Stop.un ?_) | (at_builtin; refine Stop.un ?_) | (with_reducible refine Stop.conv 40 9 ?_) | (with_reducible refine Stop.conv 9 40 ?_))
      go_ret
      exact ⟨rfl, BB⟩
end Go.Proofs.Ytdpmaocbfmgmlaa
