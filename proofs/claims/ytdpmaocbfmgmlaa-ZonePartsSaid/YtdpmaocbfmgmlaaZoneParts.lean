/- ZoneParts. -/
import Derived.Test.YtdpmaocbfmgmlaaZoneOf
import Derived.Test.YtdpmaocbfmgmlaaVOwn
set_option linter.unusedVariables false
set_option linter.unusedSimpArgs false
namespace Go.Proofs.Ytdpmaocbfmgmlaa
open Go.RowKit
set_option maxRecDepth 100000 in
set_option maxHeartbeats 8000000 in
theorem zoneParts_any (ao : Option Addr) (m cap : Nat) (l : List V) (bo : Option Addr) (m2 cap2 : Nat) (l2 : List V) (w : World) (hc : Cs w ao (vcells l)) (hm : l.length = m) (hl : m ≤ cap) (hcm : cap ≤ maxLen) (hc2 : Cs w bo (vcells l2)) (hm2 : l2.length = m2) (hl2 : m2 ≤ cap2) (hcm2 : cap2 ≤ maxLen) :
    Calls Try.prog 4 #[.slice ao m cap, .slice bo m2 cap2] w (fun e w' => e = .returned (.bool true) ∧ Below w.heap.size w w') := by
  have HF1 := Lib.hid (fun w hc => few_any ao m cap l w hc hm hl hcm)
  have HF2 := Lib.hid (fun w hc => few_any bo m2 cap2 l2 w hc hm2 hl2 hcm2)
  have hf : fewN 0 l ≤ m := hm ▸ fewN_le l 0
  have hf3 := fewN_300 l 0 (by omega)
  have hg : fewN 0 l2 ≤ m2 := hm2 ▸ fewN_le l2 0
  have hg3 := fewN_300 l2 0 (by omega)
  generalize fewN 0 l = f at hf hf3 HF1
  generalize fewN 0 l2 = g at hg hg3 HF2
  have hx : (l.take f).length = f := by simp; omega
  have hy : (l2.take g).length = g := by simp; omega
  have hcx := vcut hc f
  have hcy := vcut hc2 g
  generalize l.take f = x at hx hcx
  generalize l2.take g = y at hy hcy
  have HX := Lib.hid hx
  have HY := Lib.hid hy
  have HO1 := Lib.hid (fun w hc => zof_any ao f cap x w hc hx (by omega) hcm)
  have HO2 := Lib.hid (fun w hc => zof_any bo g cap2 y w hc hy (by omega) hcm2)
  have HO3 := Lib.hid (fun w ao m cap hc hm hl hcm => zof_any ao m cap (x ++ y) w hc hm hl hcm)
  have HM1 := Lib.hid (fun w => merge_any (ofZ x) (ofZ y) w)
  have HM2 := Lib.hid (fun w => merge_any (ofZ y) (ofZ x) w)
  have HM3 := Lib.hid (fun w => merge_any (ofZ (x ++ y)) Zn.zero w)
  have HM4 := Lib.hid (fun w => merge_any Zn.zero (ofZ (x ++ y)) w)
  rw [merge_zero_r (OkZ.of _)] at HM3
  rw [merge_zero_l (OkZ.of _)] at HM4
  rw [merge_comm (OkZ.of y) (OkZ.of x), ← ofZ_append] at HM2
  rw [← ofZ_append] at HM1
  generalize ofZ (x ++ y) = za at HO3 HM1 HM2 HM3 HM4
  generalize ofZ x = zx at HO1 HM1 HM2
  generalize ofZ y = zy at HO2 HM1 HM2
  obtain ⟨⟨k, n, s⟩, ⟨k', n', s'⟩, nu, ma⟩ := zx
  obtain ⟨⟨k2, n2, s2⟩, ⟨k2', n2', s2'⟩, nu2, ma2⟩ := zy
  obtain ⟨⟨k3, n3, s3⟩, ⟨k3', n3', s3'⟩, nu3, ma3⟩ := za
  simp only [Zn.val, Zn.zero, V.zero] at HO1 HO2 HO3 HM1 HM2 HM3 HM4
  unfold maxLen at hcm hcm2
  clear hx hy hm hm2
  go_enter Try.func4, Try.ntmps4
  go_wp2_with (first | (at_make; refine Stop.un ?_) | (at_builtin; refine Stop.un ?_) | (with_reducible refine Stop.conv 40 9 ?_) | (with_reducible refine Stop.conv 9 40 ?_))
  refine (shown_any _).mono ?_
  rintro e w1 ⟨rfl, b1⟩
  have c1 := hc.mono b1 (Nat.le_refl _)
  have c2 := hc2.mono b1 (Nat.le_refl _)
  have d1 := hcx.mono b1 (Nat.le_refl _)
  have d2 := hcy.mono b1 (Nat.le_refl _)
  clear hc hc2 hcx hcy
  go_wp2_with (first | (at_make; refine Stop.un ?_) | (at_builtin; refine Stop.un ?_) | (with_reducible refine Stop.conv 40 9 ?_) | (with_reducible refine Stop.conv 9 40 ?_))
  refine (HF1.out _ c1).mono ?_
  rintro e w2 ⟨rfl, rfl⟩
  go_wp2_with (first | (at_make; refine Stop.un ?_) | (at_builtin; refine Stop.un ?_) | (with_reducible refine Stop.conv 40 9 ?_) | (with_reducible refine Stop.conv 9 40 ?_))
  refine (HF2.out _ c2).mono ?_
  rintro e w2 ⟨rfl, rfl⟩
  clear c1 c2
  go_wp2_with (first | (at_make; refine Stop.un ?_) | (at_builtin; refine Stop.un ?_) | (with_reducible refine Stop.conv 40 9 ?_) | (with_reducible refine Stop.conv 9 40 ?_))
  refine (HO1.out _ d1).mono ?_
  rintro e w2 ⟨rfl, b2⟩
  replace b1 := b1.next b2
  replace d1 := Cs.mono d1 b2 (Nat.le_refl _)
  replace d2 := Cs.mono d2 b2 (Nat.le_refl _)
  clear b2
  go_wp2_with (first | (at_make; refine Stop.un ?_) | (at_builtin; refine Stop.un ?_) | (with_reducible refine Stop.conv 40 9 ?_) | (with_reducible refine Stop.conv 9 40 ?_))
  refine (HO2.out _ d2).mono ?_
  rintro e w3 ⟨rfl, b2⟩
  replace b1 := b1.next b2
  replace d1 := Cs.mono d1 b2 (Nat.le_refl _)
  replace d2 := Cs.mono d2 b2 (Nat.le_refl _)
  clear b2
  go_wp2_with (first | (at_make; refine Stop.un ?_) | (at_builtin; refine Stop.un ?_) | (with_reducible refine Stop.conv 40 9 ?_) | (with_reducible refine Stop.conv 9 40 ?_))
  have z1 : At ((w3.alloc (.cells #[.int .u8 k, .int .i64 n, .string s, .int .u8 k', .int .i64 n', .string s', .int .i64 nu, .int .i64 ma] 26)).alloc (.cells #[.int .u8 k2, .int .i64 n2, .string s2, .int .u8 k2', .int .i64 n2', .string s2', .int .i64 nu2, .int .i64 ma2] 26)) (w3.heap.size) #[.int .u8 k, .int .i64 n, .string s, .int .u8 k', .int .i64 n', .string s', .int .i64 nu, .int .i64 ma] 26 := by simpa only [World.size_alloc, Nat.add_assoc, Nat.reduceAdd] using (At.new w3 #[.int .u8 k, .int .i64 n, .string s, .int .u8 k', .int .i64 n', .string s', .int .i64 nu, .int .i64 ma] 26).alloc (.cells #[.int .u8 k2, .int .i64 n2, .string s2, .int .u8 k2', .int .i64 n2', .string s2', .int .i64 nu2, .int .i64 ma2] 26)
  have z2 : At ((w3.alloc (.cells #[.int .u8 k, .int .i64 n, .string s, .int .u8 k', .int .i64 n', .string s', .int .i64 nu, .int .i64 ma] 26)).alloc (.cells #[.int .u8 k2, .int .i64 n2, .string s2, .int .u8 k2', .int .i64 n2', .string s2', .int .i64 nu2, .int .i64 ma2] 26)) (w3.heap.size + 1) #[.int .u8 k2, .int .i64 n2, .string s2, .int .u8 k2', .int .i64 n2', .string s2', .int .i64 nu2, .int .i64 ma2] 26 := by simpa only [World.size_alloc, Nat.add_assoc, Nat.reduceAdd] using At.new (w3.alloc (.cells #[.int .u8 k, .int .i64 n, .string s, .int .u8 k', .int .i64 n', .string s', .int .i64 nu, .int .i64 ma] 26)) #[.int .u8 k2, .int .i64 n2, .string s2, .int .u8 k2', .int .i64 n2', .string s2', .int .i64 nu2, .int .i64 ma2] 26
  have BB : Below w3.heap.size w3 ((w3.alloc (.cells #[.int .u8 k, .int .i64 n, .string s, .int .u8 k', .int .i64 n', .string s', .int .i64 nu, .int .i64 ma] 26)).alloc (.cells #[.int .u8 k2, .int .i64 n2, .string s2, .int .u8 k2', .int .i64 n2', .string s2', .int .i64 nu2, .int .i64 ma2] 26)) := Below.alloc (Below.alloc (Below.refl w3.heap.size w3) (by (try simp only [World.size_alloc]) <;> omega) (.cells #[.int .u8 k, .int .i64 n, .string s, .int .u8 k', .int .i64 n', .string s', .int .i64 nu, .int .i64 ma] 26)) (by (try simp only [World.size_alloc]) <;> omega) (.cells #[.int .u8 k2, .int .i64 n2, .string s2, .int .u8 k2', .int .i64 n2', .string s2', .int .i64 nu2, .int .i64 ma2] 26)
  replace d1 := Cs.mono d1 BB (Nat.le_refl _)
  replace d2 := Cs.mono d2 BB (Nat.le_refl _)
  replace b1 := b1.next BB
  clear BB
  have O : OwnV ((w3.alloc (.cells #[.int .u8 k, .int .i64 n, .string s, .int .u8 k', .int .i64 n', .string s', .int .i64 nu, .int .i64 ma] 26)).alloc (.cells #[.int .u8 k2, .int .i64 n2, .string s2, .int .u8 k2', .int .i64 n2', .string s2', .int .i64 nu2, .int .i64 ma2] 26)) (((w3.alloc (.cells #[.int .u8 k, .int .i64 n, .string s, .int .u8 k', .int .i64 n', .string s', .int .i64 nu, .int .i64 ma] 26)).alloc (.cells #[.int .u8 k2, .int .i64 n2, .string s2, .int .u8 k2', .int .i64 n2', .string s2', .int .i64 nu2, .int .i64 ma2] 26)).alloc (.cells #[] 24)) (.slice (some ⟨((w3.alloc (.cells #[.int .u8 k, .int .i64 n, .string s, .int .u8 k', .int .i64 n', .string s', .int .i64 nu, .int .i64 ma] 26)).alloc (.cells #[.int .u8 k2, .int .i64 n2, .string s2, .int .u8 k2', .int .i64 n2', .string s2', .int .i64 nu2, .int .i64 ma2] 26)).heap.size, 0, none⟩) 0 0) 0 [] := Own.block (Below.refl _ _) (by simp) (by simp)
  have dd := Cs.mono d1 (Own.below O) (Nat.le_refl _)
  have hsz : w3.heap.size + 1 + 1 = ((w3.alloc (.cells #[.int .u8 k, .int .i64 n, .string s, .int .u8 k', .int .i64 n', .string s', .int .i64 nu, .int .i64 ma] 26)).alloc (.cells #[.int .u8 k2, .int .i64 n2, .string s2, .int .u8 k2', .int .i64 n2', .string s2', .int .i64 nu2, .int .i64 ma2] 26)).heap.size := by simp
  generalize ((w3.alloc (.cells #[.int .u8 k, .int .i64 n, .string s, .int .u8 k', .int .i64 n', .string s', .int .i64 nu, .int .i64 ma] 26)).alloc (.cells #[.int .u8 k2, .int .i64 n2, .string s2, .int .u8 k2', .int .i64 n2', .string s2', .int .i64 nu2, .int .i64 ma2] 26)) = wx at z1 z2 d1 d2 b1 O dd hsz ⊢
  rw [hsz]
  clear hsz
  refine Stop.mk (app_vs wx _ _ rfl rfl O rfl rfl HX.out dd (by omega) ?_)
  intro a1 c1 w4 O1 _ _
  clear O dd
  simp only [Nat.zero_add, List.nil_append] at O1
  replace d2 := Cs.mono d2 (Own.below O1) (Nat.le_refl _)
  go_wp2_with (first | (at_make; refine Stop.un ?_) | (at_builtin; refine Stop.un ?_) | (with_reducible refine Stop.conv 40 9 ?_) | (with_reducible refine Stop.conv 9 40 ?_))
  refine Stop.mk (app_vs wx _ _ rfl rfl O1 rfl rfl HY.out d2 (by omega) ?_)
  intro a2 c2 w5 O2 _ _
  clear O1 d2
  have bq := Own.below O2
  replace z1 := At.mono z1 bq
  replace z2 := At.mono z2 bq
  replace b1 := Below.next b1 bq
  clear bq d1
  go_wp2_with (first | (at_make; refine Stop.un ?_) | (at_builtin; refine Stop.un ?_) | (with_reducible refine Stop.conv 40 9 ?_) | (with_reducible refine Stop.conv 9 40 ?_))
  refine (HO3.out _ _ _ _ (by simpa using Own.cs O2) (by have := HX.out; have := HY.out; simp; omega) (owns_le O2.1) (owns_max O2.1)).mono ?_
  rintro e w6 ⟨rfl, b6⟩
  replace z1 := At.mono z1 b6
  replace z2 := At.mono z2 b6
  replace b1 := Below.next b1 b6
  clear b6 O2
  go_upto_region 5 with fail
  have z3 := At.new w6 #[.int .u8 k3, .int .i64 n3, .string s3, .int .u8 k3', .int .i64 n3', .string s3', .int .i64 nu3, .int .i64 ma3] 26
  have bq := (Below.refl w6.heap.size w6).alloc (Nat.le_refl _) (.cells #[.int .u8 k3, .int .i64 n3, .string s3, .int .u8 k3', .int .i64 n3', .string s3', .int .i64 nu3, .int .i64 ma3] 26)
  replace z1 := At.mono z1 bq
  replace z2 := At.mono z2 bq
  replace b1 := Below.next b1 bq
  clear bq
  refine mix_startE 30 rfl (by kernel_rfl) ?_
  intro xq hxq
  replace z1 := At.mono z1 hxq
  replace z2 := At.mono z2 hxq
  replace z3 := At.mono z3 hxq
  replace b1 := Below.next b1 hxq
  clear hxq
  refine mix_quiet Keeps.ext 0 rfl (by kernel_rfl) rfl ?_
  intro ι U hne hU
  go_big_quiet_op
  clear hU hne U ι
  show wpAnyM _ _ _ _ _ _ _ _ _
  refine mix_quiet Keeps.ext 1 rfl (by kernel_rfl) rfl ?_
  intro ι U hne hU
  go_big_quiet_op
  clear hU hne U ι
  show wpAnyM _ _ _ _ _ _ _ _ _
  refine mix_quiet Keeps.ext 2 rfl (by kernel_rfl) rfl ?_
  intro ι U hne hU
  have hcw0 := fun ii => (At.mono z1 (hU ii)).cell 0 rfl
  have hcw1 := fun ii => (At.mono z1 (hU ii)).cell 1 rfl
  have hcw2 := fun ii => (At.mono z1 (hU ii)).cell 2 rfl
  have hcw3 := fun ii => (At.mono z1 (hU ii)).cell 3 rfl
  have hcw4 := fun ii => (At.mono z1 (hU ii)).cell 4 rfl
  have hcw5 := fun ii => (At.mono z1 (hU ii)).cell 5 rfl
  have hcw6 := fun ii => (At.mono z1 (hU ii)).cell 6 rfl
  have hcw7 := fun ii => (At.mono z1 (hU ii)).cell 7 rfl
  have hcw8 := fun ii => (At.mono z2 (hU ii)).cell 0 rfl
  have hcw9 := fun ii => (At.mono z2 (hU ii)).cell 1 rfl
  have hcw10 := fun ii => (At.mono z2 (hU ii)).cell 2 rfl
  have hcw11 := fun ii => (At.mono z2 (hU ii)).cell 3 rfl
  have hcw12 := fun ii => (At.mono z2 (hU ii)).cell 4 rfl
  have hcw13 := fun ii => (At.mono z2 (hU ii)).cell 5 rfl
  have hcw14 := fun ii => (At.mono z2 (hU ii)).cell 6 rfl
  have hcw15 := fun ii => (At.mono z2 (hU ii)).cell 7 rfl
  have hcw16 := fun ii => (At.mono z3 (hU ii)).cell 0 rfl
  have hcw17 := fun ii => (At.mono z3 (hU ii)).cell 1 rfl
  have hcw18 := fun ii => (At.mono z3 (hU ii)).cell 2 rfl
  have hcw19 := fun ii => (At.mono z3 (hU ii)).cell 3 rfl
  have hcw20 := fun ii => (At.mono z3 (hU ii)).cell 4 rfl
  have hcw21 := fun ii => (At.mono z3 (hU ii)).cell 5 rfl
  have hcw22 := fun ii => (At.mono z3 (hU ii)).cell 6 rfl
  have hcw23 := fun ii => (At.mono z3 (hU ii)).cell 7 rfl
  go_big_quiet_op
  clear hU hne hcw0 hcw1 hcw2 hcw3 hcw4 hcw5 hcw6 hcw7 hcw8 hcw9 hcw10 hcw11 hcw12 hcw13 hcw14 hcw15 hcw16 hcw17 hcw18 hcw19 hcw20 hcw21 hcw22 hcw23 U ι
  show wpAnyM _ _ _ _ _ _ _ _ _
  refine mix_quiet Keeps.ext 3 rfl (by kernel_rfl) rfl ?_
  intro ι U hne hU
  have hcw0 := fun ii => (At.mono z1 (hU ii)).cell 0 rfl
  have hcw1 := fun ii => (At.mono z1 (hU ii)).cell 1 rfl
  have hcw2 := fun ii => (At.mono z1 (hU ii)).cell 2 rfl
  have hcw3 := fun ii => (At.mono z1 (hU ii)).cell 3 rfl
  have hcw4 := fun ii => (At.mono z1 (hU ii)).cell 4 rfl
  have hcw5 := fun ii => (At.mono z1 (hU ii)).cell 5 rfl
  have hcw6 := fun ii => (At.mono z1 (hU ii)).cell 6 rfl
  have hcw7 := fun ii => (At.mono z1 (hU ii)).cell 7 rfl
  have hcw8 := fun ii => (At.mono z2 (hU ii)).cell 0 rfl
  have hcw9 := fun ii => (At.mono z2 (hU ii)).cell 1 rfl
  have hcw10 := fun ii => (At.mono z2 (hU ii)).cell 2 rfl
  have hcw11 := fun ii => (At.mono z2 (hU ii)).cell 3 rfl
  have hcw12 := fun ii => (At.mono z2 (hU ii)).cell 4 rfl
  have hcw13 := fun ii => (At.mono z2 (hU ii)).cell 5 rfl
  have hcw14 := fun ii => (At.mono z2 (hU ii)).cell 6 rfl
  have hcw15 := fun ii => (At.mono z2 (hU ii)).cell 7 rfl
  have hcw16 := fun ii => (At.mono z3 (hU ii)).cell 0 rfl
  have hcw17 := fun ii => (At.mono z3 (hU ii)).cell 1 rfl
  have hcw18 := fun ii => (At.mono z3 (hU ii)).cell 2 rfl
  have hcw19 := fun ii => (At.mono z3 (hU ii)).cell 3 rfl
  have hcw20 := fun ii => (At.mono z3 (hU ii)).cell 4 rfl
  have hcw21 := fun ii => (At.mono z3 (hU ii)).cell 5 rfl
  have hcw22 := fun ii => (At.mono z3 (hU ii)).cell 6 rfl
  have hcw23 := fun ii => (At.mono z3 (hU ii)).cell 7 rfl
  go_big_quiet_op
  clear hU hne hcw0 hcw1 hcw2 hcw3 hcw4 hcw5 hcw6 hcw7 hcw8 hcw9 hcw10 hcw11 hcw12 hcw13 hcw14 hcw15 hcw16 hcw17 hcw18 hcw19 hcw20 hcw21 hcw22 hcw23 U ι
  show wpAnyM _ _ _ _ _ _ _ _ _
  refine mix_quiet Keeps.ext 5 rfl (by kernel_rfl) rfl ?_
  intro ι U hne hU
  have hcw0 := fun ii => (At.mono z1 (hU ii)).cell 0 rfl
  have hcw1 := fun ii => (At.mono z1 (hU ii)).cell 1 rfl
  have hcw2 := fun ii => (At.mono z1 (hU ii)).cell 2 rfl
  have hcw3 := fun ii => (At.mono z1 (hU ii)).cell 3 rfl
  have hcw4 := fun ii => (At.mono z1 (hU ii)).cell 4 rfl
  have hcw5 := fun ii => (At.mono z1 (hU ii)).cell 5 rfl
  have hcw6 := fun ii => (At.mono z1 (hU ii)).cell 6 rfl
  have hcw7 := fun ii => (At.mono z1 (hU ii)).cell 7 rfl
  have hcw8 := fun ii => (At.mono z2 (hU ii)).cell 0 rfl
  have hcw9 := fun ii => (At.mono z2 (hU ii)).cell 1 rfl
  have hcw10 := fun ii => (At.mono z2 (hU ii)).cell 2 rfl
  have hcw11 := fun ii => (At.mono z2 (hU ii)).cell 3 rfl
  have hcw12 := fun ii => (At.mono z2 (hU ii)).cell 4 rfl
  have hcw13 := fun ii => (At.mono z2 (hU ii)).cell 5 rfl
  have hcw14 := fun ii => (At.mono z2 (hU ii)).cell 6 rfl
  have hcw15 := fun ii => (At.mono z2 (hU ii)).cell 7 rfl
  have hcw16 := fun ii => (At.mono z3 (hU ii)).cell 0 rfl
  have hcw17 := fun ii => (At.mono z3 (hU ii)).cell 1 rfl
  have hcw18 := fun ii => (At.mono z3 (hU ii)).cell 2 rfl
  have hcw19 := fun ii => (At.mono z3 (hU ii)).cell 3 rfl
  have hcw20 := fun ii => (At.mono z3 (hU ii)).cell 4 rfl
  have hcw21 := fun ii => (At.mono z3 (hU ii)).cell 5 rfl
  have hcw22 := fun ii => (At.mono z3 (hU ii)).cell 6 rfl
  have hcw23 := fun ii => (At.mono z3 (hU ii)).cell 7 rfl
  go_big_quiet_op
  clear hU hne hcw0 hcw1 hcw2 hcw3 hcw4 hcw5 hcw6 hcw7 hcw8 hcw9 hcw10 hcw11 hcw12 hcw13 hcw14 hcw15 hcw16 hcw17 hcw18 hcw19 hcw20 hcw21 hcw22 hcw23 U ι
  show wpAnyM _ _ _ _ _ _ _ _ _
  refine mix_any 4 rfl (by kernel_rfl) rfl ?_
  go_wp2_with (first | (at_make; refine Stop.un ?_) | (at_builtin; refine Stop.un ?_) | (with_reducible refine Stop.conv 40 9 ?_) | (with_reducible refine Stop.conv 9 40 ?_))
  refine (HM1.out _).mono ?_
  rintro e wq1 ⟨rfl, bq1⟩
  go_wp2_with (first | (at_make; refine Stop.un ?_) | (at_builtin; refine Stop.un ?_) | (with_reducible refine Stop.conv 40 9 ?_) | (with_reducible refine Stop.conv 9 40 ?_))
  refine MixPost.mk bq1 ?_
  replace z1 := At.mono z1 bq1
  replace z2 := At.mono z2 bq1
  replace z3 := At.mono z3 bq1
  replace b1 := Below.next b1 bq1
  clear bq1
  refine mix_quiet Keeps.ext 6 rfl (by kernel_rfl) rfl ?_
  intro ι U hne hU
  refine quiet_as _ (exec_eqZ ⟨⟨_, _, _⟩, ⟨_, _, _⟩, _, _⟩ rfl rfl) (hne.elim fun ii => ⟨_, ii, rfl⟩) ?_
  go_big_quiet_op
  clear hU hne U ι
  show wpAnyM _ _ _ _ _ _ _ _ _
  refine mix_quiet Keeps.ext 7 rfl (by kernel_rfl) rfl ?_
  intro ι U hne hU
  go_big_quiet_op
  clear hU hne U ι
  show wpAnyM _ _ _ _ _ _ _ _ _
  refine mix_quiet Keeps.ext 8 rfl (by kernel_rfl) rfl ?_
  intro ι U hne hU
  go_big_quiet_op
  clear hU hne U ι
  show wpAnyM _ _ _ _ _ _ _ _ _
  refine mix_quiet Keeps.ext 9 rfl (by kernel_rfl) rfl ?_
  intro ι U hne hU
  have hcw0 := fun ii => (At.mono z1 (hU ii)).cell 0 rfl
  have hcw1 := fun ii => (At.mono z1 (hU ii)).cell 1 rfl
  have hcw2 := fun ii => (At.mono z1 (hU ii)).cell 2 rfl
  have hcw3 := fun ii => (At.mono z1 (hU ii)).cell 3 rfl
  have hcw4 := fun ii => (At.mono z1 (hU ii)).cell 4 rfl
  have hcw5 := fun ii => (At.mono z1 (hU ii)).cell 5 rfl
  have hcw6 := fun ii => (At.mono z1 (hU ii)).cell 6 rfl
  have hcw7 := fun ii => (At.mono z1 (hU ii)).cell 7 rfl
  have hcw8 := fun ii => (At.mono z2 (hU ii)).cell 0 rfl
  have hcw9 := fun ii => (At.mono z2 (hU ii)).cell 1 rfl
  have hcw10 := fun ii => (At.mono z2 (hU ii)).cell 2 rfl
  have hcw11 := fun ii => (At.mono z2 (hU ii)).cell 3 rfl
  have hcw12 := fun ii => (At.mono z2 (hU ii)).cell 4 rfl
  have hcw13 := fun ii => (At.mono z2 (hU ii)).cell 5 rfl
  have hcw14 := fun ii => (At.mono z2 (hU ii)).cell 6 rfl
  have hcw15 := fun ii => (At.mono z2 (hU ii)).cell 7 rfl
  have hcw16 := fun ii => (At.mono z3 (hU ii)).cell 0 rfl
  have hcw17 := fun ii => (At.mono z3 (hU ii)).cell 1 rfl
  have hcw18 := fun ii => (At.mono z3 (hU ii)).cell 2 rfl
  have hcw19 := fun ii => (At.mono z3 (hU ii)).cell 3 rfl
  have hcw20 := fun ii => (At.mono z3 (hU ii)).cell 4 rfl
  have hcw21 := fun ii => (At.mono z3 (hU ii)).cell 5 rfl
  have hcw22 := fun ii => (At.mono z3 (hU ii)).cell 6 rfl
  have hcw23 := fun ii => (At.mono z3 (hU ii)).cell 7 rfl
  go_big_quiet_op
  clear hU hne hcw0 hcw1 hcw2 hcw3 hcw4 hcw5 hcw6 hcw7 hcw8 hcw9 hcw10 hcw11 hcw12 hcw13 hcw14 hcw15 hcw16 hcw17 hcw18 hcw19 hcw20 hcw21 hcw22 hcw23 U ι
  show wpAnyM _ _ _ _ _ _ _ _ _
  refine mix_quiet Keeps.ext 10 rfl (by kernel_rfl) rfl ?_
  intro ι U hne hU
  have hcw0 := fun ii => (At.mono z1 (hU ii)).cell 0 rfl
  have hcw1 := fun ii => (At.mono z1 (hU ii)).cell 1 rfl
  have hcw2 := fun ii => (At.mono z1 (hU ii)).cell 2 rfl
  have hcw3 := fun ii => (At.mono z1 (hU ii)).cell 3 rfl
  have hcw4 := fun ii => (At.mono z1 (hU ii)).cell 4 rfl
  have hcw5 := fun ii => (At.mono z1 (hU ii)).cell 5 rfl
  have hcw6 := fun ii => (At.mono z1 (hU ii)).cell 6 rfl
  have hcw7 := fun ii => (At.mono z1 (hU ii)).cell 7 rfl
  have hcw8 := fun ii => (At.mono z2 (hU ii)).cell 0 rfl
  have hcw9 := fun ii => (At.mono z2 (hU ii)).cell 1 rfl
  have hcw10 := fun ii => (At.mono z2 (hU ii)).cell 2 rfl
  have hcw11 := fun ii => (At.mono z2 (hU ii)).cell 3 rfl
  have hcw12 := fun ii => (At.mono z2 (hU ii)).cell 4 rfl
  have hcw13 := fun ii => (At.mono z2 (hU ii)).cell 5 rfl
  have hcw14 := fun ii => (At.mono z2 (hU ii)).cell 6 rfl
  have hcw15 := fun ii => (At.mono z2 (hU ii)).cell 7 rfl
  have hcw16 := fun ii => (At.mono z3 (hU ii)).cell 0 rfl
  have hcw17 := fun ii => (At.mono z3 (hU ii)).cell 1 rfl
  have hcw18 := fun ii => (At.mono z3 (hU ii)).cell 2 rfl
  have hcw19 := fun ii => (At.mono z3 (hU ii)).cell 3 rfl
  have hcw20 := fun ii => (At.mono z3 (hU ii)).cell 4 rfl
  have hcw21 := fun ii => (At.mono z3 (hU ii)).cell 5 rfl
  have hcw22 := fun ii => (At.mono z3 (hU ii)).cell 6 rfl
  have hcw23 := fun ii => (At.mono z3 (hU ii)).cell 7 rfl
  go_big_quiet_op
  clear hU hne hcw0 hcw1 hcw2 hcw3 hcw4 hcw5 hcw6 hcw7 hcw8 hcw9 hcw10 hcw11 hcw12 hcw13 hcw14 hcw15 hcw16 hcw17 hcw18 hcw19 hcw20 hcw21 hcw22 hcw23 U ι
  show wpAnyM _ _ _ _ _ _ _ _ _
  refine mix_quiet Keeps.ext 12 rfl (by kernel_rfl) rfl ?_
  intro ι U hne hU
  have hcw0 := fun ii => (At.mono z1 (hU ii)).cell 0 rfl
  have hcw1 := fun ii => (At.mono z1 (hU ii)).cell 1 rfl
  have hcw2 := fun ii => (At.mono z1 (hU ii)).cell 2 rfl
  have hcw3 := fun ii => (At.mono z1 (hU ii)).cell 3 rfl
  have hcw4 := fun ii => (At.mono z1 (hU ii)).cell 4 rfl
  have hcw5 := fun ii => (At.mono z1 (hU ii)).cell 5 rfl
  have hcw6 := fun ii => (At.mono z1 (hU ii)).cell 6 rfl
  have hcw7 := fun ii => (At.mono z1 (hU ii)).cell 7 rfl
  have hcw8 := fun ii => (At.mono z2 (hU ii)).cell 0 rfl
  have hcw9 := fun ii => (At.mono z2 (hU ii)).cell 1 rfl
  have hcw10 := fun ii => (At.mono z2 (hU ii)).cell 2 rfl
  have hcw11 := fun ii => (At.mono z2 (hU ii)).cell 3 rfl
  have hcw12 := fun ii => (At.mono z2 (hU ii)).cell 4 rfl
  have hcw13 := fun ii => (At.mono z2 (hU ii)).cell 5 rfl
  have hcw14 := fun ii => (At.mono z2 (hU ii)).cell 6 rfl
  have hcw15 := fun ii => (At.mono z2 (hU ii)).cell 7 rfl
  have hcw16 := fun ii => (At.mono z3 (hU ii)).cell 0 rfl
  have hcw17 := fun ii => (At.mono z3 (hU ii)).cell 1 rfl
  have hcw18 := fun ii => (At.mono z3 (hU ii)).cell 2 rfl
  have hcw19 := fun ii => (At.mono z3 (hU ii)).cell 3 rfl
  have hcw20 := fun ii => (At.mono z3 (hU ii)).cell 4 rfl
  have hcw21 := fun ii => (At.mono z3 (hU ii)).cell 5 rfl
  have hcw22 := fun ii => (At.mono z3 (hU ii)).cell 6 rfl
  have hcw23 := fun ii => (At.mono z3 (hU ii)).cell 7 rfl
  go_big_quiet_op
  clear hU hne hcw0 hcw1 hcw2 hcw3 hcw4 hcw5 hcw6 hcw7 hcw8 hcw9 hcw10 hcw11 hcw12 hcw13 hcw14 hcw15 hcw16 hcw17 hcw18 hcw19 hcw20 hcw21 hcw22 hcw23 U ι
  show wpAnyM _ _ _ _ _ _ _ _ _
  refine mix_any 11 rfl (by kernel_rfl) rfl ?_
  go_wp2_with (first | (at_make; refine Stop.un ?_) | (at_builtin; refine Stop.un ?_) | (with_reducible refine Stop.conv 40 9 ?_) | (with_reducible refine Stop.conv 9 40 ?_))
  refine (HM2.out _).mono ?_
  rintro e wq2 ⟨rfl, bq2⟩
  go_wp2_with (first | (at_make; refine Stop.un ?_) | (at_builtin; refine Stop.un ?_) | (with_reducible refine Stop.conv 40 9 ?_) | (with_reducible refine Stop.conv 9 40 ?_))
  refine MixPost.mk bq2 ?_
  replace z1 := At.mono z1 bq2
  replace z2 := At.mono z2 bq2
  replace z3 := At.mono z3 bq2
  replace b1 := Below.next b1 bq2
  clear bq2
  refine mix_quiet Keeps.ext 13 rfl (by kernel_rfl) rfl ?_
  intro ι U hne hU
  refine quiet_as _ (exec_eqZ ⟨⟨_, _, _⟩, ⟨_, _, _⟩, _, _⟩ rfl rfl) (hne.elim fun ii => ⟨_, ii, rfl⟩) ?_
  go_big_quiet_op
  clear hU hne U ι
  show wpAnyM _ _ _ _ _ _ _ _ _
  refine mix_quiet Keeps.ext 14 rfl (by kernel_rfl) rfl ?_
  intro ι U hne hU
  go_big_quiet_op
  clear hU hne U ι
  show wpAnyM _ _ _ _ _ _ _ _ _
  refine mix_quiet Keeps.ext 15 rfl (by kernel_rfl) rfl ?_
  intro ι U hne hU
  go_big_quiet_op
  clear hU hne U ι
  show wpAnyM _ _ _ _ _ _ _ _ _
  refine mix_quiet Keeps.ext 16 rfl (by kernel_rfl) rfl ?_
  intro ι U hne hU
  have hcw0 := fun ii => (At.mono z1 (hU ii)).cell 0 rfl
  have hcw1 := fun ii => (At.mono z1 (hU ii)).cell 1 rfl
  have hcw2 := fun ii => (At.mono z1 (hU ii)).cell 2 rfl
  have hcw3 := fun ii => (At.mono z1 (hU ii)).cell 3 rfl
  have hcw4 := fun ii => (At.mono z1 (hU ii)).cell 4 rfl
  have hcw5 := fun ii => (At.mono z1 (hU ii)).cell 5 rfl
  have hcw6 := fun ii => (At.mono z1 (hU ii)).cell 6 rfl
  have hcw7 := fun ii => (At.mono z1 (hU ii)).cell 7 rfl
  have hcw8 := fun ii => (At.mono z2 (hU ii)).cell 0 rfl
  have hcw9 := fun ii => (At.mono z2 (hU ii)).cell 1 rfl
  have hcw10 := fun ii => (At.mono z2 (hU ii)).cell 2 rfl
  have hcw11 := fun ii => (At.mono z2 (hU ii)).cell 3 rfl
  have hcw12 := fun ii => (At.mono z2 (hU ii)).cell 4 rfl
  have hcw13 := fun ii => (At.mono z2 (hU ii)).cell 5 rfl
  have hcw14 := fun ii => (At.mono z2 (hU ii)).cell 6 rfl
  have hcw15 := fun ii => (At.mono z2 (hU ii)).cell 7 rfl
  have hcw16 := fun ii => (At.mono z3 (hU ii)).cell 0 rfl
  have hcw17 := fun ii => (At.mono z3 (hU ii)).cell 1 rfl
  have hcw18 := fun ii => (At.mono z3 (hU ii)).cell 2 rfl
  have hcw19 := fun ii => (At.mono z3 (hU ii)).cell 3 rfl
  have hcw20 := fun ii => (At.mono z3 (hU ii)).cell 4 rfl
  have hcw21 := fun ii => (At.mono z3 (hU ii)).cell 5 rfl
  have hcw22 := fun ii => (At.mono z3 (hU ii)).cell 6 rfl
  have hcw23 := fun ii => (At.mono z3 (hU ii)).cell 7 rfl
  go_big_quiet_op
  clear hU hne hcw0 hcw1 hcw2 hcw3 hcw4 hcw5 hcw6 hcw7 hcw8 hcw9 hcw10 hcw11 hcw12 hcw13 hcw14 hcw15 hcw16 hcw17 hcw18 hcw19 hcw20 hcw21 hcw22 hcw23 U ι
  show wpAnyM _ _ _ _ _ _ _ _ _
  refine mix_quiet Keeps.ext 17 rfl (by kernel_rfl) rfl ?_
  intro ι U hne hU
  go_big_quiet_op
  clear hU hne U ι
  show wpAnyM _ _ _ _ _ _ _ _ _
  refine mix_quiet Keeps.ext 19 rfl (by kernel_rfl) rfl ?_
  intro ι U hne hU
  have hcw0 := fun ii => (At.mono z1 (hU ii)).cell 0 rfl
  have hcw1 := fun ii => (At.mono z1 (hU ii)).cell 1 rfl
  have hcw2 := fun ii => (At.mono z1 (hU ii)).cell 2 rfl
  have hcw3 := fun ii => (At.mono z1 (hU ii)).cell 3 rfl
  have hcw4 := fun ii => (At.mono z1 (hU ii)).cell 4 rfl
  have hcw5 := fun ii => (At.mono z1 (hU ii)).cell 5 rfl
  have hcw6 := fun ii => (At.mono z1 (hU ii)).cell 6 rfl
  have hcw7 := fun ii => (At.mono z1 (hU ii)).cell 7 rfl
  have hcw8 := fun ii => (At.mono z2 (hU ii)).cell 0 rfl
  have hcw9 := fun ii => (At.mono z2 (hU ii)).cell 1 rfl
  have hcw10 := fun ii => (At.mono z2 (hU ii)).cell 2 rfl
  have hcw11 := fun ii => (At.mono z2 (hU ii)).cell 3 rfl
  have hcw12 := fun ii => (At.mono z2 (hU ii)).cell 4 rfl
  have hcw13 := fun ii => (At.mono z2 (hU ii)).cell 5 rfl
  have hcw14 := fun ii => (At.mono z2 (hU ii)).cell 6 rfl
  have hcw15 := fun ii => (At.mono z2 (hU ii)).cell 7 rfl
  have hcw16 := fun ii => (At.mono z3 (hU ii)).cell 0 rfl
  have hcw17 := fun ii => (At.mono z3 (hU ii)).cell 1 rfl
  have hcw18 := fun ii => (At.mono z3 (hU ii)).cell 2 rfl
  have hcw19 := fun ii => (At.mono z3 (hU ii)).cell 3 rfl
  have hcw20 := fun ii => (At.mono z3 (hU ii)).cell 4 rfl
  have hcw21 := fun ii => (At.mono z3 (hU ii)).cell 5 rfl
  have hcw22 := fun ii => (At.mono z3 (hU ii)).cell 6 rfl
  have hcw23 := fun ii => (At.mono z3 (hU ii)).cell 7 rfl
  go_big_quiet_op
  clear hU hne hcw0 hcw1 hcw2 hcw3 hcw4 hcw5 hcw6 hcw7 hcw8 hcw9 hcw10 hcw11 hcw12 hcw13 hcw14 hcw15 hcw16 hcw17 hcw18 hcw19 hcw20 hcw21 hcw22 hcw23 U ι
  show wpAnyM _ _ _ _ _ _ _ _ _
  refine mix_any 18 rfl (by kernel_rfl) rfl ?_
  go_wp2_with (first | (at_make; refine Stop.un ?_) | (at_builtin; refine Stop.un ?_) | (with_reducible refine Stop.conv 40 9 ?_) | (with_reducible refine Stop.conv 9 40 ?_))
  refine (HM3.out _).mono ?_
  rintro e wq3 ⟨rfl, bq3⟩
  go_wp2_with (first | (at_make; refine Stop.un ?_) | (at_builtin; refine Stop.un ?_) | (with_reducible refine Stop.conv 40 9 ?_) | (with_reducible refine Stop.conv 9 40 ?_))
  refine MixPost.mk bq3 ?_
  replace z1 := At.mono z1 bq3
  replace z2 := At.mono z2 bq3
  replace z3 := At.mono z3 bq3
  replace b1 := Below.next b1 bq3
  clear bq3
  refine mix_quiet Keeps.ext 20 rfl (by kernel_rfl) rfl ?_
  intro ι U hne hU
  refine quiet_as _ (exec_eqZ ⟨⟨_, _, _⟩, ⟨_, _, _⟩, _, _⟩ rfl rfl) (hne.elim fun ii => ⟨_, ii, rfl⟩) ?_
  go_big_quiet_op
  clear hU hne U ι
  show wpAnyM _ _ _ _ _ _ _ _ _
  refine mix_quiet Keeps.ext 21 rfl (by kernel_rfl) rfl ?_
  intro ι U hne hU
  go_big_quiet_op
  clear hU hne U ι
  show wpAnyM _ _ _ _ _ _ _ _ _
  refine mix_quiet Keeps.ext 22 rfl (by kernel_rfl) rfl ?_
  intro ι U hne hU
  go_big_quiet_op
  clear hU hne U ι
  show wpAnyM _ _ _ _ _ _ _ _ _
  refine mix_quiet Keeps.ext 23 rfl (by kernel_rfl) rfl ?_
  intro ι U hne hU
  go_big_quiet_op
  clear hU hne U ι
  show wpAnyM _ _ _ _ _ _ _ _ _
  refine mix_quiet Keeps.ext 24 rfl (by kernel_rfl) rfl ?_
  intro ι U hne hU
  have hcw0 := fun ii => (At.mono z1 (hU ii)).cell 0 rfl
  have hcw1 := fun ii => (At.mono z1 (hU ii)).cell 1 rfl
  have hcw2 := fun ii => (At.mono z1 (hU ii)).cell 2 rfl
  have hcw3 := fun ii => (At.mono z1 (hU ii)).cell 3 rfl
  have hcw4 := fun ii => (At.mono z1 (hU ii)).cell 4 rfl
  have hcw5 := fun ii => (At.mono z1 (hU ii)).cell 5 rfl
  have hcw6 := fun ii => (At.mono z1 (hU ii)).cell 6 rfl
  have hcw7 := fun ii => (At.mono z1 (hU ii)).cell 7 rfl
  have hcw8 := fun ii => (At.mono z2 (hU ii)).cell 0 rfl
  have hcw9 := fun ii => (At.mono z2 (hU ii)).cell 1 rfl
  have hcw10 := fun ii => (At.mono z2 (hU ii)).cell 2 rfl
  have hcw11 := fun ii => (At.mono z2 (hU ii)).cell 3 rfl
  have hcw12 := fun ii => (At.mono z2 (hU ii)).cell 4 rfl
  have hcw13 := fun ii => (At.mono z2 (hU ii)).cell 5 rfl
  have hcw14 := fun ii => (At.mono z2 (hU ii)).cell 6 rfl
  have hcw15 := fun ii => (At.mono z2 (hU ii)).cell 7 rfl
  have hcw16 := fun ii => (At.mono z3 (hU ii)).cell 0 rfl
  have hcw17 := fun ii => (At.mono z3 (hU ii)).cell 1 rfl
  have hcw18 := fun ii => (At.mono z3 (hU ii)).cell 2 rfl
  have hcw19 := fun ii => (At.mono z3 (hU ii)).cell 3 rfl
  have hcw20 := fun ii => (At.mono z3 (hU ii)).cell 4 rfl
  have hcw21 := fun ii => (At.mono z3 (hU ii)).cell 5 rfl
  have hcw22 := fun ii => (At.mono z3 (hU ii)).cell 6 rfl
  have hcw23 := fun ii => (At.mono z3 (hU ii)).cell 7 rfl
  go_big_quiet_op
  clear hU hne hcw0 hcw1 hcw2 hcw3 hcw4 hcw5 hcw6 hcw7 hcw8 hcw9 hcw10 hcw11 hcw12 hcw13 hcw14 hcw15 hcw16 hcw17 hcw18 hcw19 hcw20 hcw21 hcw22 hcw23 U ι
  show wpAnyM _ _ _ _ _ _ _ _ _
  refine mix_quiet Keeps.ext 26 rfl (by kernel_rfl) rfl ?_
  intro ι U hne hU
  have hcw0 := fun ii => (At.mono z1 (hU ii)).cell 0 rfl
  have hcw1 := fun ii => (At.mono z1 (hU ii)).cell 1 rfl
  have hcw2 := fun ii => (At.mono z1 (hU ii)).cell 2 rfl
  have hcw3 := fun ii => (At.mono z1 (hU ii)).cell 3 rfl
  have hcw4 := fun ii => (At.mono z1 (hU ii)).cell 4 rfl
  have hcw5 := fun ii => (At.mono z1 (hU ii)).cell 5 rfl
  have hcw6 := fun ii => (At.mono z1 (hU ii)).cell 6 rfl
  have hcw7 := fun ii => (At.mono z1 (hU ii)).cell 7 rfl
  have hcw8 := fun ii => (At.mono z2 (hU ii)).cell 0 rfl
  have hcw9 := fun ii => (At.mono z2 (hU ii)).cell 1 rfl
  have hcw10 := fun ii => (At.mono z2 (hU ii)).cell 2 rfl
  have hcw11 := fun ii => (At.mono z2 (hU ii)).cell 3 rfl
  have hcw12 := fun ii => (At.mono z2 (hU ii)).cell 4 rfl
  have hcw13 := fun ii => (At.mono z2 (hU ii)).cell 5 rfl
  have hcw14 := fun ii => (At.mono z2 (hU ii)).cell 6 rfl
  have hcw15 := fun ii => (At.mono z2 (hU ii)).cell 7 rfl
  have hcw16 := fun ii => (At.mono z3 (hU ii)).cell 0 rfl
  have hcw17 := fun ii => (At.mono z3 (hU ii)).cell 1 rfl
  have hcw18 := fun ii => (At.mono z3 (hU ii)).cell 2 rfl
  have hcw19 := fun ii => (At.mono z3 (hU ii)).cell 3 rfl
  have hcw20 := fun ii => (At.mono z3 (hU ii)).cell 4 rfl
  have hcw21 := fun ii => (At.mono z3 (hU ii)).cell 5 rfl
  have hcw22 := fun ii => (At.mono z3 (hU ii)).cell 6 rfl
  have hcw23 := fun ii => (At.mono z3 (hU ii)).cell 7 rfl
  go_big_quiet_op
  clear hU hne hcw0 hcw1 hcw2 hcw3 hcw4 hcw5 hcw6 hcw7 hcw8 hcw9 hcw10 hcw11 hcw12 hcw13 hcw14 hcw15 hcw16 hcw17 hcw18 hcw19 hcw20 hcw21 hcw22 hcw23 U ι
  show wpAnyM _ _ _ _ _ _ _ _ _
  refine mix_any 25 rfl (by kernel_rfl) rfl ?_
  go_wp2_with (first | (at_make; refine Stop.un ?_) | (at_builtin; refine Stop.un ?_) | (with_reducible refine Stop.conv 40 9 ?_) | (with_reducible refine Stop.conv 9 40 ?_))
  refine (HM4.out _).mono ?_
  rintro e wq4 ⟨rfl, bq4⟩
  go_wp2_with (first | (at_make; refine Stop.un ?_) | (at_builtin; refine Stop.un ?_) | (with_reducible refine Stop.conv 40 9 ?_) | (with_reducible refine Stop.conv 9 40 ?_))
  refine MixPost.mk bq4 ?_
  replace z1 := At.mono z1 bq4
  replace z2 := At.mono z2 bq4
  replace z3 := At.mono z3 bq4
  replace b1 := Below.next b1 bq4
  clear bq4
  refine mix_quiet Keeps.ext 27 rfl (by kernel_rfl) rfl ?_
  intro ι U hne hU
  refine quiet_as _ (exec_eqZ ⟨⟨_, _, _⟩, ⟨_, _, _⟩, _, _⟩ rfl rfl) (hne.elim fun ii => ⟨_, ii, rfl⟩) ?_
  go_big_quiet_op
  clear hU hne U ι
  show wpAnyM _ _ _ _ _ _ _ _ _
  refine mix_quiet Keeps.ext 28 rfl (by kernel_rfl) rfl ?_
  intro ι U hne hU
  go_big_quiet_op
  clear hU hne U ι
  show wpAnyM _ _ _ _ _ _ _ _ _
  refine mix_quiet Keeps.ext 29 rfl (by kernel_rfl) rfl ?_
  intro ι U hne hU
  go_big_quiet_op
  clear hU hne U ι
  show wpAnyM _ _ _ _ _ _ _ _ _
  refine mix_end (by kernel_rfl) ?_
  go_wp2_with (first | (at_make; refine Stop.un ?_) | (at_builtin; refine Stop.un ?_) | (with_reducible refine Stop.conv 40 9 ?_) | (with_reducible refine Stop.conv 9 40 ?_))
  go_ret
  exact ⟨rfl, b1⟩
end Go.Proofs.Ytdpmaocbfmgmlaa
