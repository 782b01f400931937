/- ZonePuts. -/
import Derived.Test.YtdpmaocbfmgmlaaZoneOf
import Derived.Test.YtdpmaocbfmgmlaaZRTake
set_option linter.unusedVariables false
set_option linter.unusedSimpArgs false
namespace Go.Proofs.Ytdpmaocbfmgmlaa
open Go.RowKit
theorem zbcut {w : World} {ao : Option Addr} {l : List UInt8} (h : Cs w ao (bcells l)) (k : Nat) : Cs w ao (bcells (l.take k)) := by
  have := h.take k
  rwa [show (bcells l).take k = bcells (l.take k) by simp [bcells, List.map_take]] at this
set_option maxRecDepth 100000 in
set_option maxHeartbeats 16000000 in
theorem zonePuts_any (kd : Int) (z : Zn) (ao : Option Addr) (m cap : Nat) (l : List UInt8) (w : World) (hz : z.ok) (h1 : InR z.lo.n) (h2 : InR z.hi.n) (h3 : InR z.nulls) (h4 : InR z.many)
    (hc : Cs w ao (bcells l)) (hm : l.length = m) (hl : m ≤ cap) (hcm : cap ≤ maxLen) :
    Calls Try.prog 7 #[.int .u8 kd, z.val, .slice ao m cap] w (fun e w' => e = .returned (.bool true) ∧ Below w.heap.size w w') := by
  have HS1 := Lib.hid (fun w => short_any z w hz.1 hz.2)
  generalize decide (z.lo.s.size ≤ 1100 ∧ z.hi.s.size ≤ 1100) = p1 at HS1
  have hx : (l.take (min m 4000)).length = min m 4000 := by simp; omega
  have hcx := zbcut hc (min m 4000)
  have hfc : min m 4000 ≤ cap := by omega
  have hmin2 : min (m : Int) 4000 = ((min m 4000 : Nat) : Int) := by omega
  generalize l.take (min m 4000) = x at hx hcx
  have HT := Lib.hid (fun w hc => ztake_any kd ao (min m 4000) cap x w hc hx (by omega) hfc)
  have HRT := Lib.hid (fun w hc => rztake_any kd ao (min m 4000) cap x w hc hx (by omega) hfc)
  unfold maxLen at hcm
  have HMIN := Lib.hid hmin2
  generalize min m 4000 = f at hx hfc HMIN HT HRT
  have HR := Lib.hid (fun w => zright_any kd z w ⟨h4, h3⟩)
  have HRR := Lib.hid (fun w => rzright_any kd z w ⟨h4, h3⟩)
  have HP := Lib.hid (fun w => zput_any z w h1 h2 h3 h4)
  have HRP := Lib.hid (fun w => rzput_any z w h1 h2 h3 h4)
  generalize rightZ kd z = R at HR HRR
  generalize putZ z = pz at HP HRP
  generalize tzE kd x = er at HT HRT
  generalize tzZ kd x = tz at HT HRT
  obtain ⟨⟨k, n, s⟩, ⟨k', n', s'⟩, nu, ma⟩ := z
  obtain ⟨⟨k2, n2, s2⟩, ⟨k3, n3, s3⟩, nu2, ma2⟩ := tz
  simp only [Zn.val] at HS1 HR HRR HP HRP HT HRT ⊢
  clear hc hm hz h1 h2 h3 h4 hx hmin2
  go_enter Try.func7, Try.ntmps7
  go_wp2_with (first | (at_make; refine Stop.un ?_) | (at_builtin; refine Stop.un ?_) | (with_reducible refine Stop.conv 40 9 ?_) | (with_reducible refine Stop.conv 9 40 ?_))
  refine (shown_any _).mono ?_
  rintro e w1 ⟨rfl, bb1⟩
  have z1 : At (w.alloc (.cells #[.int .u8 k, .int .i64 n, .string s, .int .u8 k', .int .i64 n', .string s', .int .i64 nu, .int .i64 ma] 26)) (w.heap.size) #[.int .u8 k, .int .i64 n, .string s, .int .u8 k', .int .i64 n', .string s', .int .i64 nu, .int .i64 ma] 26 := by simpa only [World.size_alloc, Nat.add_assoc, Nat.reduceAdd] using At.new w #[.int .u8 k, .int .i64 n, .string s, .int .u8 k', .int .i64 n', .string s', .int .i64 nu, .int .i64 ma] 26
  have BB : Below w.heap.size w (w.alloc (.cells #[.int .u8 k, .int .i64 n, .string s, .int .u8 k', .int .i64 n', .string s', .int .i64 nu, .int .i64 ma] 26)) := Below.alloc (Below.refl w.heap.size w) (by (try simp only [World.size_alloc]) <;> omega) (.cells #[.int .u8 k, .int .i64 n, .string s, .int .u8 k', .int .i64 n', .string s', .int .i64 nu, .int .i64 ma] 26)
  have c1 := hcx.mono BB (Nat.le_refl _)
  clear hcx
  replace z1 := At.mono z1 bb1
  replace c1 := Cs.mono c1 bb1 (Nat.le_refl _)
  replace BB := Below.next BB bb1
  clear bb1
  have x0 := z1.cell 0 rfl
  have x1 := z1.cell 1 rfl
  have x2 := z1.cell 2 rfl
  have x3 := z1.cell 3 rfl
  have x4 := z1.cell 4 rfl
  have x5 := z1.cell 5 rfl
  have x6 := z1.cell 6 rfl
  have x7 := z1.cell 7 rfl
  have xl := z1.lt
  go_wp2_with (first | (at_make; refine Stop.un ?_) | (at_builtin; refine Stop.un ?_) | (with_reducible refine Stop.conv 40 9 ?_) | (with_reducible refine Stop.conv 9 40 ?_))
  refine (HS1.out _).mono ?_
  rintro e w2 ⟨rfl, bb2⟩
  clear xl x0 x1 x2 x3 x4 x5 x6 x7
  replace z1 := At.mono z1 bb2
  replace c1 := Cs.mono c1 bb2 (Nat.le_refl _)
  replace BB := Below.next BB bb2
  clear bb2
  cases p1 with
  | false =>
    go_wp2_with (first | (at_make; refine Stop.un ?_) | (at_builtin; refine Stop.un ?_) | (with_reducible refine Stop.conv 40 9 ?_) | (with_reducible refine Stop.conv 9 40 ?_))
    go_ret
    exact ⟨rfl, BB⟩
  | true =>
    go_wp2_with (first | (at_make; refine Stop.un ?_) | (at_builtin; refine Stop.un ?_) | (with_reducible refine Stop.conv 40 9 ?_) | (with_reducible refine Stop.conv 9 40 ?_) | (with_reducible refine Stop.slice ?_))
    rw [HMIN.out]
    refine Stop.mk ?_
    clear HMIN
    go_wp2_with (first | (at_make; refine Stop.un ?_) | (at_builtin; refine Stop.un ?_) | (with_reducible refine Stop.conv 40 9 ?_) | (with_reducible refine Stop.conv 9 40 ?_))
    refine (HT.out _ c1).mono ?_
    rintro e w3 ⟨rfl, bb3⟩
    replace z1 := At.mono z1 bb3
    replace c1 := Cs.mono c1 bb3 (Nat.le_refl _)
    replace BB := Below.next BB bb3
    clear bb3 HT
    go_upto_region 6 with fail
    have z3 := At.new w3 #[.int .u8 k2, .int .i64 n2, .string s2, .int .u8 k3, .int .i64 n3, .string s3, .int .i64 nu2, .int .i64 ma2] 26
    have bz := (Below.refl w3.heap.size w3).alloc (Nat.le_refl _) (.cells #[.int .u8 k2, .int .i64 n2, .string s2, .int .u8 k3, .int .i64 n3, .string s3, .int .i64 nu2, .int .i64 ma2] 26)
    replace z1 := At.mono z1 bz
    replace c1 := Cs.mono c1 bz (Nat.le_refl _)
    replace BB := Below.next BB bz
    clear bz
    generalize w3.alloc (.cells #[.int .u8 k2, .int .i64 n2, .string s2, .int .u8 k3, .int .i64 n3, .string s3, .int .i64 nu2, .int .i64 ma2] 26) = y3 at z1 c1 BB z3 ⊢
    generalize w3.heap.size = h3 at z3 ⊢
    go_wp2_with (first | (at_make; refine Stop.un ?_) | (at_builtin; refine Stop.un ?_) | (with_reducible refine Stop.conv 40 9 ?_) | (with_reducible refine Stop.conv 9 40 ?_))
    refine (HRT.out _ c1).mono ?_
    rintro e w4 ⟨rfl, bb4⟩
    replace z1 := At.mono z1 bb4
    replace c1 := Cs.mono c1 bb4 (Nat.le_refl _)
    replace BB := Below.next BB bb4
    replace z3 := At.mono z3 bb4
    clear bb4 HRT
    go_upto_region 7 with fail
    have z4 := At.new w4 #[.int .u8 k2, .int .i64 n2, .string s2, .int .u8 k3, .int .i64 n3, .string s3, .int .i64 nu2, .int .i64 ma2] 26
    have bz := (Below.refl w4.heap.size w4).alloc (Nat.le_refl _) (.cells #[.int .u8 k2, .int .i64 n2, .string s2, .int .u8 k3, .int .i64 n3, .string s3, .int .i64 nu2, .int .i64 ma2] 26)
    replace z1 := At.mono z1 bz
    replace c1 := Cs.mono c1 bz (Nat.le_refl _)
    replace BB := Below.next BB bz
    replace z3 := At.mono z3 bz
    clear bz
    generalize w4.alloc (.cells #[.int .u8 k2, .int .i64 n2, .string s2, .int .u8 k3, .int .i64 n3, .string s3, .int .i64 nu2, .int .i64 ma2] 26) = y4 at z1 c1 BB z3 z4 ⊢
    generalize w4.heap.size = h4 at z4 ⊢
    have hq1 : (R == R) = true := by simp
    have hq2 : ((strOf pz).toList == (strOf pz).toList) = true := by simp
    have hq3 : (er == er) = true := by simp
    clear c1
    refine mix_startE 30 rfl (by kernel_rfl) ?_
    intro xq hxq
    replace z1 := At.mono z1 hxq
    replace BB := Below.next BB hxq
    replace z3 := At.mono z3 hxq
    replace z4 := At.mono z4 hxq
    clear hxq
    refine mix_quiet Keeps.ext 0 rfl (by kernel_rfl) rfl ?_
    intro ι U hne hU
    go_big_quiet_op
    clear hU hne U ι
    show wpAnyM _ _ _ _ _ _ _ _ _
    refine mix_quiet Keeps.ext 1 rfl (by kernel_rfl) rfl ?_
    intro ι U hne hU
    go_big_quiet_op
    clear hU hne U ι
    show wpAnyM _ _ _ _ _ _ _ _ _
    refine mix_quiet Keeps.ext 2 rfl (by kernel_rfl) rfl ?_
    intro ι U hne hU
    go_big_quiet_op
    clear hU hne U ι
    show wpAnyM _ _ _ _ _ _ _ _ _
    refine mix_quiet Keeps.ext 3 rfl (by kernel_rfl) rfl ?_
    intro ι U hne hU
    have hcw0 := fun ii => (At.mono z1 (hU ii)).cell 0 rfl
    have hcw1 := fun ii => (At.mono z1 (hU ii)).cell 1 rfl
    have hcw2 := fun ii => (At.mono z1 (hU ii)).cell 2 rfl
    have hcw3 := fun ii => (At.mono z1 (hU ii)).cell 3 rfl
    have hcw4 := fun ii => (At.mono z1 (hU ii)).cell 4 rfl
    have hcw5 := fun ii => (At.mono z1 (hU ii)).cell 5 rfl
    have hcw6 := fun ii => (At.mono z1 (hU ii)).cell 6 rfl
    have hcw7 := fun ii => (At.mono z1 (hU ii)).cell 7 rfl
    have hcw8 := fun ii => (At.mono z3 (hU ii)).cell 0 rfl
    have hcw9 := fun ii => (At.mono z3 (hU ii)).cell 1 rfl
    have hcw10 := fun ii => (At.mono z3 (hU ii)).cell 2 rfl
    have hcw11 := fun ii => (At.mono z3 (hU ii)).cell 3 rfl
    have hcw12 := fun ii => (At.mono z3 (hU ii)).cell 4 rfl
    have hcw13 := fun ii => (At.mono z3 (hU ii)).cell 5 rfl
    have hcw14 := fun ii => (At.mono z3 (hU ii)).cell 6 rfl
    have hcw15 := fun ii => (At.mono z3 (hU ii)).cell 7 rfl
    have hcw16 := fun ii => (At.mono z4 (hU ii)).cell 0 rfl
    have hcw17 := fun ii => (At.mono z4 (hU ii)).cell 1 rfl
    have hcw18 := fun ii => (At.mono z4 (hU ii)).cell 2 rfl
    have hcw19 := fun ii => (At.mono z4 (hU ii)).cell 3 rfl
    have hcw20 := fun ii => (At.mono z4 (hU ii)).cell 4 rfl
    have hcw21 := fun ii => (At.mono z4 (hU ii)).cell 5 rfl
    have hcw22 := fun ii => (At.mono z4 (hU ii)).cell 6 rfl
    have hcw23 := fun ii => (At.mono z4 (hU ii)).cell 7 rfl
    go_big_quiet_op
    clear hU hne hcw0 hcw1 hcw2 hcw3 hcw4 hcw5 hcw6 hcw7 hcw8 hcw9 hcw10 hcw11 hcw12 hcw13 hcw14 hcw15 hcw16 hcw17 hcw18 hcw19 hcw20 hcw21 hcw22 hcw23 U ι
    show wpAnyM _ _ _ _ _ _ _ _ _
    refine mix_quiet Keeps.ext 5 rfl (by kernel_rfl) rfl ?_
    intro ι U hne hU
    go_big_quiet_op
    clear hU hne U ι
    show wpAnyM _ _ _ _ _ _ _ _ _
    refine mix_quiet Keeps.ext 6 rfl (by kernel_rfl) rfl ?_
    intro ι U hne hU
    have hcw0 := fun ii => (At.mono z1 (hU ii)).cell 0 rfl
    have hcw1 := fun ii => (At.mono z1 (hU ii)).cell 1 rfl
    have hcw2 := fun ii => (At.mono z1 (hU ii)).cell 2 rfl
    have hcw3 := fun ii => (At.mono z1 (hU ii)).cell 3 rfl
    have hcw4 := fun ii => (At.mono z1 (hU ii)).cell 4 rfl
    have hcw5 := fun ii => (At.mono z1 (hU ii)).cell 5 rfl
    have hcw6 := fun ii => (At.mono z1 (hU ii)).cell 6 rfl
    have hcw7 := fun ii => (At.mono z1 (hU ii)).cell 7 rfl
    have hcw8 := fun ii => (At.mono z3 (hU ii)).cell 0 rfl
    have hcw9 := fun ii => (At.mono z3 (hU ii)).cell 1 rfl
    have hcw10 := fun ii => (At.mono z3 (hU ii)).cell 2 rfl
    have hcw11 := fun ii => (At.mono z3 (hU ii)).cell 3 rfl
    have hcw12 := fun ii => (At.mono z3 (hU ii)).cell 4 rfl
    have hcw13 := fun ii => (At.mono z3 (hU ii)).cell 5 rfl
    have hcw14 := fun ii => (At.mono z3 (hU ii)).cell 6 rfl
    have hcw15 := fun ii => (At.mono z3 (hU ii)).cell 7 rfl
    have hcw16 := fun ii => (At.mono z4 (hU ii)).cell 0 rfl
    have hcw17 := fun ii => (At.mono z4 (hU ii)).cell 1 rfl
    have hcw18 := fun ii => (At.mono z4 (hU ii)).cell 2 rfl
    have hcw19 := fun ii => (At.mono z4 (hU ii)).cell 3 rfl
    have hcw20 := fun ii => (At.mono z4 (hU ii)).cell 4 rfl
    have hcw21 := fun ii => (At.mono z4 (hU ii)).cell 5 rfl
    have hcw22 := fun ii => (At.mono z4 (hU ii)).cell 6 rfl
    have hcw23 := fun ii => (At.mono z4 (hU ii)).cell 7 rfl
    go_big_quiet_op
    clear hU hne hcw0 hcw1 hcw2 hcw3 hcw4 hcw5 hcw6 hcw7 hcw8 hcw9 hcw10 hcw11 hcw12 hcw13 hcw14 hcw15 hcw16 hcw17 hcw18 hcw19 hcw20 hcw21 hcw22 hcw23 U ι
    show wpAnyM _ _ _ _ _ _ _ _ _
    refine mix_any 4 rfl (by kernel_rfl) rfl ?_
    go_wp2_with (first | (at_make; refine Stop.un ?_) | (at_builtin; refine Stop.un ?_) | (with_reducible refine Stop.conv 40 9 ?_) | (with_reducible refine Stop.conv 9 40 ?_))
    refine (HR.out _).mono ?_
    rintro e wq1 ⟨rfl, bq1⟩
    go_wp2_with (first | (at_make; refine Stop.un ?_) | (at_builtin; refine Stop.un ?_) | (with_reducible refine Stop.conv 40 9 ?_) | (with_reducible refine Stop.conv 9 40 ?_))
    refine MixPost.mk bq1 ?_
    replace z1 := At.mono z1 bq1
    replace BB := Below.next BB bq1
    replace z3 := At.mono z3 bq1
    replace z4 := At.mono z4 bq1
    clear bq1
    refine mix_any 7 rfl (by kernel_rfl) rfl ?_
    go_wp2_with (first | (at_make; refine Stop.un ?_) | (at_builtin; refine Stop.un ?_) | (with_reducible refine Stop.conv 40 9 ?_) | (with_reducible refine Stop.conv 9 40 ?_))
    refine (HRR.out _).mono ?_
    rintro e wq2 ⟨rfl, bq2⟩
    go_wp2_with (first | (at_make; refine Stop.un ?_) | (at_builtin; refine Stop.un ?_) | (with_reducible refine Stop.conv 40 9 ?_) | (with_reducible refine Stop.conv 9 40 ?_))
    refine MixPost.mk bq2 ?_
    replace z1 := At.mono z1 bq2
    replace BB := Below.next BB bq2
    replace z3 := At.mono z3 bq2
    replace z4 := At.mono z4 bq2
    clear bq2
    refine mix_quiet Keeps.ext 8 rfl (by kernel_rfl) rfl ?_
    intro ι U hne hU
    go_big_quiet_op
    clear hU hne U ι
    show wpAnyM _ _ _ _ _ _ _ _ _
    refine mix_quiet Keeps.ext 9 rfl (by kernel_rfl) rfl ?_
    intro ι U hne hU
    go_big_quiet_op
    clear hU hne U ι
    show wpAnyM _ _ _ _ _ _ _ _ _
    refine mix_quiet Keeps.ext 10 rfl (by kernel_rfl) rfl ?_
    intro ι U hne hU
    go_big_quiet_op
    clear hU hne U ι
    show wpAnyM _ _ _ _ _ _ _ _ _
    refine mix_quiet Keeps.ext 11 rfl (by kernel_rfl) rfl ?_
    intro ι U hne hU
    have hcw0 := fun ii => (At.mono z1 (hU ii)).cell 0 rfl
    have hcw1 := fun ii => (At.mono z1 (hU ii)).cell 1 rfl
    have hcw2 := fun ii => (At.mono z1 (hU ii)).cell 2 rfl
    have hcw3 := fun ii => (At.mono z1 (hU ii)).cell 3 rfl
    have hcw4 := fun ii => (At.mono z1 (hU ii)).cell 4 rfl
    have hcw5 := fun ii => (At.mono z1 (hU ii)).cell 5 rfl
    have hcw6 := fun ii => (At.mono z1 (hU ii)).cell 6 rfl
    have hcw7 := fun ii => (At.mono z1 (hU ii)).cell 7 rfl
    have hcw8 := fun ii => (At.mono z3 (hU ii)).cell 0 rfl
    have hcw9 := fun ii => (At.mono z3 (hU ii)).cell 1 rfl
    have hcw10 := fun ii => (At.mono z3 (hU ii)).cell 2 rfl
    have hcw11 := fun ii => (At.mono z3 (hU ii)).cell 3 rfl
    have hcw12 := fun ii => (At.mono z3 (hU ii)).cell 4 rfl
    have hcw13 := fun ii => (At.mono z3 (hU ii)).cell 5 rfl
    have hcw14 := fun ii => (At.mono z3 (hU ii)).cell 6 rfl
    have hcw15 := fun ii => (At.mono z3 (hU ii)).cell 7 rfl
    have hcw16 := fun ii => (At.mono z4 (hU ii)).cell 0 rfl
    have hcw17 := fun ii => (At.mono z4 (hU ii)).cell 1 rfl
    have hcw18 := fun ii => (At.mono z4 (hU ii)).cell 2 rfl
    have hcw19 := fun ii => (At.mono z4 (hU ii)).cell 3 rfl
    have hcw20 := fun ii => (At.mono z4 (hU ii)).cell 4 rfl
    have hcw21 := fun ii => (At.mono z4 (hU ii)).cell 5 rfl
    have hcw22 := fun ii => (At.mono z4 (hU ii)).cell 6 rfl
    have hcw23 := fun ii => (At.mono z4 (hU ii)).cell 7 rfl
    go_big_quiet_op
    clear hU hne hcw0 hcw1 hcw2 hcw3 hcw4 hcw5 hcw6 hcw7 hcw8 hcw9 hcw10 hcw11 hcw12 hcw13 hcw14 hcw15 hcw16 hcw17 hcw18 hcw19 hcw20 hcw21 hcw22 hcw23 U ι
    show wpAnyM _ _ _ _ _ _ _ _ _
    refine mix_quiet Keeps.ext 14 rfl (by kernel_rfl) rfl ?_
    intro ι U hne hU
    have hcw0 := fun ii => (At.mono z1 (hU ii)).cell 0 rfl
    have hcw1 := fun ii => (At.mono z1 (hU ii)).cell 1 rfl
    have hcw2 := fun ii => (At.mono z1 (hU ii)).cell 2 rfl
    have hcw3 := fun ii => (At.mono z1 (hU ii)).cell 3 rfl
    have hcw4 := fun ii => (At.mono z1 (hU ii)).cell 4 rfl
    have hcw5 := fun ii => (At.mono z1 (hU ii)).cell 5 rfl
    have hcw6 := fun ii => (At.mono z1 (hU ii)).cell 6 rfl
    have hcw7 := fun ii => (At.mono z1 (hU ii)).cell 7 rfl
    have hcw8 := fun ii => (At.mono z3 (hU ii)).cell 0 rfl
    have hcw9 := fun ii => (At.mono z3 (hU ii)).cell 1 rfl
    have hcw10 := fun ii => (At.mono z3 (hU ii)).cell 2 rfl
    have hcw11 := fun ii => (At.mono z3 (hU ii)).cell 3 rfl
    have hcw12 := fun ii => (At.mono z3 (hU ii)).cell 4 rfl
    have hcw13 := fun ii => (At.mono z3 (hU ii)).cell 5 rfl
    have hcw14 := fun ii => (At.mono z3 (hU ii)).cell 6 rfl
    have hcw15 := fun ii => (At.mono z3 (hU ii)).cell 7 rfl
    have hcw16 := fun ii => (At.mono z4 (hU ii)).cell 0 rfl
    have hcw17 := fun ii => (At.mono z4 (hU ii)).cell 1 rfl
    have hcw18 := fun ii => (At.mono z4 (hU ii)).cell 2 rfl
    have hcw19 := fun ii => (At.mono z4 (hU ii)).cell 3 rfl
    have hcw20 := fun ii => (At.mono z4 (hU ii)).cell 4 rfl
    have hcw21 := fun ii => (At.mono z4 (hU ii)).cell 5 rfl
    have hcw22 := fun ii => (At.mono z4 (hU ii)).cell 6 rfl
    have hcw23 := fun ii => (At.mono z4 (hU ii)).cell 7 rfl
    go_big_quiet_op
    clear hU hne hcw0 hcw1 hcw2 hcw3 hcw4 hcw5 hcw6 hcw7 hcw8 hcw9 hcw10 hcw11 hcw12 hcw13 hcw14 hcw15 hcw16 hcw17 hcw18 hcw19 hcw20 hcw21 hcw22 hcw23 U ι
    show wpAnyM _ _ _ _ _ _ _ _ _
    refine mix_any 12 rfl (by kernel_rfl) rfl ?_
    go_wp2_with (first | (at_make; refine Stop.un ?_) | (at_builtin; refine Stop.un ?_) | (with_reducible refine Stop.conv 40 9 ?_) | (with_reducible refine Stop.conv 9 40 ?_))
    refine (HP.out _).mono ?_
    rintro e wp1 ⟨ap1, np1, cp1, hp1, rfl, op1⟩
    have bp := Own.below op1
    have csp1 := Own.cs op1
    have HNP1 := Lib.hid hp1
    clear op1 hp1
    go_wp2_with (first | (at_make; refine Stop.un ?_) | (at_builtin; refine Stop.un ?_) | (with_reducible refine Stop.conv 40 9 ?_) | (with_reducible refine Stop.conv 9 40 ?_))
    refine MixPost.mk bp ?_
    replace z1 := At.mono z1 bp
    replace BB := Below.next BB bp
    replace z3 := At.mono z3 bp
    replace z4 := At.mono z4 bp
    clear bp
    refine mix_quiet Keeps.ext 13 rfl (by kernel_rfl) rfl ?_
    intro ι U hne hU
    have hcv := fun ii => run_conv_cs (P := Try.prog) (w := U ii) Try.underlying40 Try.underlying5 Try.underlying9 (cap := cp1) HNP1.out (Cs.mono csp1 (hU ii) (Nat.le_refl _))
    go_big_quiet_op
    clear hU hne hcv U ι
    show wpAnyM _ _ _ _ _ _ _ _ _
    refine mix_any 15 rfl (by kernel_rfl) rfl ?_
    go_wp2_with (first | (at_make; refine Stop.un ?_) | (at_builtin; refine Stop.un ?_) | (with_reducible refine Stop.conv 40 9 ?_) | (with_reducible refine Stop.conv 9 40 ?_))
    refine (HRP.out _).mono ?_
    rintro e wp2 ⟨ap2, np2, cp2, hp2, rfl, op2⟩
    have bp := Own.below op2
    have csp2 := Own.cs op2
    have HNP2 := Lib.hid hp2
    clear op2 hp2
    go_wp2_with (first | (at_make; refine Stop.un ?_) | (at_builtin; refine Stop.un ?_) | (with_reducible refine Stop.conv 40 9 ?_) | (with_reducible refine Stop.conv 9 40 ?_))
    refine MixPost.mk bp ?_
    replace z1 := At.mono z1 bp
    replace BB := Below.next BB bp
    replace z3 := At.mono z3 bp
    replace z4 := At.mono z4 bp
    replace csp1 := Cs.mono csp1 bp (Nat.le_refl _)
    clear bp
    refine mix_quiet Keeps.ext 16 rfl (by kernel_rfl) rfl ?_
    intro ι U hne hU
    have hcv := fun ii => run_conv_cs (P := Try.prog) (w := U ii) Try.underlying40 Try.underlying5 Try.underlying9 (cap := cp2) HNP2.out (Cs.mono csp2 (hU ii) (Nat.le_refl _))
    go_big_quiet_op
    clear hU hne hcv U ι
    show wpAnyM _ _ _ _ _ _ _ _ _
    refine mix_quiet Keeps.ext 17 rfl (by kernel_rfl) rfl ?_
    intro ι U hne hU
    go_big_quiet_op
    clear hU hne U ι
    show wpAnyM _ _ _ _ _ _ _ _ _
    refine mix_quiet Keeps.ext 18 rfl (by kernel_rfl) rfl ?_
    intro ι U hne hU
    go_big_quiet_op
    clear hU hne U ι
    show wpAnyM _ _ _ _ _ _ _ _ _
    refine mix_quiet Keeps.ext 19 rfl (by kernel_rfl) rfl ?_
    intro ι U hne hU
    go_big_quiet_op
    clear hU hne U ι
    show wpAnyM _ _ _ _ _ _ _ _ _
    refine mix_quiet Keeps.ext 20 rfl (by kernel_rfl) rfl ?_
    intro ι U hne hU
    have hcw0 := fun ii => (At.mono z1 (hU ii)).cell 0 rfl
    have hcw1 := fun ii => (At.mono z1 (hU ii)).cell 1 rfl
    have hcw2 := fun ii => (At.mono z1 (hU ii)).cell 2 rfl
    have hcw3 := fun ii => (At.mono z1 (hU ii)).cell 3 rfl
    have hcw4 := fun ii => (At.mono z1 (hU ii)).cell 4 rfl
    have hcw5 := fun ii => (At.mono z1 (hU ii)).cell 5 rfl
    have hcw6 := fun ii => (At.mono z1 (hU ii)).cell 6 rfl
    have hcw7 := fun ii => (At.mono z1 (hU ii)).cell 7 rfl
    have hcw8 := fun ii => (At.mono z3 (hU ii)).cell 0 rfl
    have hcw9 := fun ii => (At.mono z3 (hU ii)).cell 1 rfl
    have hcw10 := fun ii => (At.mono z3 (hU ii)).cell 2 rfl
    have hcw11 := fun ii => (At.mono z3 (hU ii)).cell 3 rfl
    have hcw12 := fun ii => (At.mono z3 (hU ii)).cell 4 rfl
    have hcw13 := fun ii => (At.mono z3 (hU ii)).cell 5 rfl
    have hcw14 := fun ii => (At.mono z3 (hU ii)).cell 6 rfl
    have hcw15 := fun ii => (At.mono z3 (hU ii)).cell 7 rfl
    have hcw16 := fun ii => (At.mono z4 (hU ii)).cell 0 rfl
    have hcw17 := fun ii => (At.mono z4 (hU ii)).cell 1 rfl
    have hcw18 := fun ii => (At.mono z4 (hU ii)).cell 2 rfl
    have hcw19 := fun ii => (At.mono z4 (hU ii)).cell 3 rfl
    have hcw20 := fun ii => (At.mono z4 (hU ii)).cell 4 rfl
    have hcw21 := fun ii => (At.mono z4 (hU ii)).cell 5 rfl
    have hcw22 := fun ii => (At.mono z4 (hU ii)).cell 6 rfl
    have hcw23 := fun ii => (At.mono z4 (hU ii)).cell 7 rfl
    go_big_quiet_op
    clear hU hne hcw0 hcw1 hcw2 hcw3 hcw4 hcw5 hcw6 hcw7 hcw8 hcw9 hcw10 hcw11 hcw12 hcw13 hcw14 hcw15 hcw16 hcw17 hcw18 hcw19 hcw20 hcw21 hcw22 hcw23 U ι
    show wpAnyM _ _ _ _ _ _ _ _ _
    refine mix_quiet Keeps.ext 21 rfl (by kernel_rfl) rfl ?_
    intro ι U hne hU
    have hcw0 := fun ii => (At.mono z1 (hU ii)).cell 0 rfl
    have hcw1 := fun ii => (At.mono z1 (hU ii)).cell 1 rfl
    have hcw2 := fun ii => (At.mono z1 (hU ii)).cell 2 rfl
    have hcw3 := fun ii => (At.mono z1 (hU ii)).cell 3 rfl
    have hcw4 := fun ii => (At.mono z1 (hU ii)).cell 4 rfl
    have hcw5 := fun ii => (At.mono z1 (hU ii)).cell 5 rfl
    have hcw6 := fun ii => (At.mono z1 (hU ii)).cell 6 rfl
    have hcw7 := fun ii => (At.mono z1 (hU ii)).cell 7 rfl
    have hcw8 := fun ii => (At.mono z3 (hU ii)).cell 0 rfl
    have hcw9 := fun ii => (At.mono z3 (hU ii)).cell 1 rfl
    have hcw10 := fun ii => (At.mono z3 (hU ii)).cell 2 rfl
    have hcw11 := fun ii => (At.mono z3 (hU ii)).cell 3 rfl
    have hcw12 := fun ii => (At.mono z3 (hU ii)).cell 4 rfl
    have hcw13 := fun ii => (At.mono z3 (hU ii)).cell 5 rfl
    have hcw14 := fun ii => (At.mono z3 (hU ii)).cell 6 rfl
    have hcw15 := fun ii => (At.mono z3 (hU ii)).cell 7 rfl
    have hcw16 := fun ii => (At.mono z4 (hU ii)).cell 0 rfl
    have hcw17 := fun ii => (At.mono z4 (hU ii)).cell 1 rfl
    have hcw18 := fun ii => (At.mono z4 (hU ii)).cell 2 rfl
    have hcw19 := fun ii => (At.mono z4 (hU ii)).cell 3 rfl
    have hcw20 := fun ii => (At.mono z4 (hU ii)).cell 4 rfl
    have hcw21 := fun ii => (At.mono z4 (hU ii)).cell 5 rfl
    have hcw22 := fun ii => (At.mono z4 (hU ii)).cell 6 rfl
    have hcw23 := fun ii => (At.mono z4 (hU ii)).cell 7 rfl
    go_big_quiet_op
    clear hU hne hcw0 hcw1 hcw2 hcw3 hcw4 hcw5 hcw6 hcw7 hcw8 hcw9 hcw10 hcw11 hcw12 hcw13 hcw14 hcw15 hcw16 hcw17 hcw18 hcw19 hcw20 hcw21 hcw22 hcw23 U ι
    show wpAnyM _ _ _ _ _ _ _ _ _
    refine mix_quiet Keeps.ext 22 rfl (by kernel_rfl) rfl ?_
    intro ι U hne hU
    refine quiet_as _ (exec_eqZ ⟨⟨_, _, _⟩, ⟨_, _, _⟩, _, _⟩ rfl rfl) (hne.elim fun ii => ⟨_, ii, rfl⟩) ?_
    go_big_quiet_op
    clear hU hne U ι
    show wpAnyM _ _ _ _ _ _ _ _ _
    refine mix_quiet Keeps.ext 23 rfl (by kernel_rfl) rfl ?_
    intro ι U hne hU
    go_big_quiet_op
    clear hU hne U ι
    show wpAnyM _ _ _ _ _ _ _ _ _
    refine mix_quiet Keeps.ext 24 rfl (by kernel_rfl) rfl ?_
    intro ι U hne hU
    go_big_quiet_op
    clear hU hne U ι
    show wpAnyM _ _ _ _ _ _ _ _ _
    refine mix_quiet Keeps.ext 25 rfl (by kernel_rfl) rfl ?_
    intro ι U hne hU
    go_big_quiet_op
    clear hU hne U ι
    show wpAnyM _ _ _ _ _ _ _ _ _
    refine mix_quiet Keeps.ext 26 rfl (by kernel_rfl) rfl ?_
    intro ι U hne hU
    go_big_quiet_op
    clear hU hne U ι
    show wpAnyM _ _ _ _ _ _ _ _ _
    refine mix_quiet Keeps.ext 27 rfl (by kernel_rfl) rfl ?_
    intro ι U hne hU
    go_big_quiet_op
    clear hU hne U ι
    show wpAnyM _ _ _ _ _ _ _ _ _
    refine mix_quiet Keeps.ext 28 rfl (by kernel_rfl) rfl ?_
    intro ι U hne hU
    go_big_quiet_op
    clear hU hne U ι
    show wpAnyM _ _ _ _ _ _ _ _ _
    refine mix_quiet Keeps.ext 29 rfl (by kernel_rfl) rfl ?_
    intro ι U hne hU
    go_big_quiet_op
    clear hU hne U ι
    show wpAnyM _ _ _ _ _ _ _ _ _
    refine mix_end (by kernel_rfl) ?_
    go_wp2_with (first | (at_make; refine Stop.un ?_) | (at_builtin; refine Stop.un ?_) | (with_reducible refine Stop.conv 40 9 ?_) | (with_reducible refine Stop.conv 9 40 ?_))
    go_ret
    exact ⟨rfl, BB⟩
end Go.Proofs.Ytdpmaocbfmgmlaa
