/- The head of all statements of layer 13. -/
import Derived.Test.YtdpmaocbfmgmlaaZRAsk
import Derived.Test.YtdpmaocbfmgmlaaZOf
set_option linter.unusedVariables false
set_option linter.unusedSimpArgs false
namespace Go.Proofs.Ytdpmaocbfmgmlaa
open Go.RowKit
theorem znum_any (n : Int) (w : World) : Calls Try.prog 31 #[.int .i64 n] w (fun e w' => e = .returned (.agg #[.int .u8 2, .int .i64 n, .string ⟨#[]⟩]) ∧ Below w.heap.size w w') := by
  go_enter Try.func31, Try.ntmps31
  go_wp2_with (first | (at_make; refine Stop.un ?_) | (at_builtin; refine Stop.un ?_) | (with_reducible refine Stop.conv 40 9 ?_) | (with_reducible refine Stop.conv 9 40 ?_))
  exact bodyPost_ret (v := .agg #[.int .u8 2, .int .i64 n, .string ⟨#[]⟩]) (by simp [results, Try.results31, go_sem]) rfl ⟨rfl, by repeat' (first | with_reducible exact Below.refl _ _ | refine Below.alloc ?_ (by simp <;> omega) _ | refine Below.setCell ?_ (by simp <;> omega) _)⟩
theorem short_any (z : Zn) (w : World) (h1 : z.lo.s.size ≤ maxLen) (h2 : z.hi.s.size ≤ maxLen) : Calls Try.prog 10 #[z.val] w (fun e w' => e = .returned (.bool (decide (z.lo.s.size ≤ 1100 ∧ z.hi.s.size ≤ 1100))) ∧ Below w.heap.size w w') := by
  obtain ⟨⟨k, n, s⟩, ⟨k', n', s'⟩, nu, ma⟩ := z
  unfold maxLen at h1 h2
  simp only [Zn.val] at h1 h2 ⊢
  by_cases g1 : s.size ≤ 1100
  · have g2 : (s.size : Int) ≤ 1100 := by omega
    by_cases g3 : s'.size ≤ 1100
    · have g4 : (s'.size : Int) ≤ 1100 := by omega
      rw [decide_eq_true (And.intro g1 g3)]
      go_enter Try.func10, Try.ntmps10
      go_wp2_with (first | (at_make; refine Stop.un ?_) | (at_builtin; refine Stop.un ?_) | (with_reducible refine Stop.conv 40 9 ?_) | (with_reducible refine Stop.conv 9 40 ?_))
      go_ret
      exact ⟨rfl, by repeat' (first | with_reducible exact Below.refl _ _ | refine Below.alloc ?_ (by simp <;> omega) _ | refine Below.setCell ?_ (by simp <;> omega) _)⟩
    · have g4 : ¬ (s'.size : Int) ≤ 1100 := by omega
      rw [decide_eq_false (fun x => g3 x.2)]
      go_enter Try.func10, Try.ntmps10
      go_wp2_with (first | (at_make; refine Stop.un ?_) | (at_builtin; refine Stop.un ?_) | (with_reducible refine Stop.conv 40 9 ?_) | (with_reducible refine Stop.conv 9 40 ?_))
      go_ret
      exact ⟨rfl, by repeat' (first | with_reducible exact Below.refl _ _ | refine Below.alloc ?_ (by simp <;> omega) _ | refine Below.setCell ?_ (by simp <;> omega) _)⟩
  · have g2 : ¬ (s.size : Int) ≤ 1100 := by omega
    rw [decide_eq_false (fun x => g1 x.1)]
    go_enter Try.func10, Try.ntmps10
    go_wp2_with (first | (at_make; refine Stop.un ?_) | (at_builtin; refine Stop.un ?_) | (with_reducible refine Stop.conv 40 9 ?_) | (with_reducible refine Stop.conv 9 40 ?_))
    go_ret
    exact ⟨rfl, by repeat' (first | with_reducible exact Below.refl _ _ | refine Below.alloc ?_ (by simp <;> omega) _ | refine Below.setCell ?_ (by simp <;> omega) _)⟩
theorem At.cs {w : World} {g : Nat} {l : List Value} {t : TypeId} (h : At w g l.toArray t) : Cs w (some ⟨g, 0, none⟩) l := by
  intro j v hj
  refine ⟨g, 0, rfl, ?_⟩
  simpa using h.cell j (v := v) (by simpa using hj)
theorem exec_eqZ {ρ : Operand → Value} {x y : Operand} {dst : Option Tmp} {T2 ty : TypeId} {pos : String} {af : Array Edge} {g : Option (Nat × Bool)} (a : Zn) (hx : ρ x = a.val) (hy : ρ y = a.val) (w : World) :
    (execOp ρ ⟨dst, .binOp .eql 26 x y T2, ty, pos, af, g⟩).run Try.prog w = .ok (.value (.bool true)) w := by
  obtain ⟨⟨k, n, s⟩, ⟨k', n', s'⟩, nu, ma⟩ := a
  simp only [Zn.val] at hx hy
  simp [execOp, hx, hy, go_sem]
@[go_sem] theorem equal_t3 (a b c a' b' c' : Bool) (w : World) : (Op.equalIn 10000 34 (.agg #[.bool a, .bool b, .bool c]) (.agg #[.bool a', .bool b', .bool c'])).run Try.prog w = .ok (a == a' && (b == b' && c == c')) w := by
  have u3 := Try.underlying4
  have a3 := Try.isAgg4
  have z3 := Try.sizeOf4
  rw [show (10000 : Nat) = 9999 + 1 from rfl, Op.equalIn]
  simp only [Sem.run_bind, run_underlying Try.underlying34, Result.andThen_ok]
  simp only [Std.Legacy.Range.forIn_eq_forIn_range', Std.Legacy.Range.size, Nat.sub_zero, Nat.add_sub_cancel, Nat.div_one, List.range'_succ, List.range'_zero, List.forIn_cons, List.forIn_nil]
  go_simp
  cases a <;> cases a' <;> cases b <;> cases b' <;> cases c <;> cases c' <;> simp
theorem exec_eqT {ρ : Operand → Value} {x y : Operand} {dst : Option Tmp} {T2 ty : TypeId} {pos : String} {af : Array Edge} {g : Option (Nat × Bool)} (a : Tri3) (hx : ρ x = a.val) (hy : ρ y = a.val) (w : World) :
    (execOp ρ ⟨dst, .binOp .eql 34 x y T2, ty, pos, af, g⟩).run Try.prog w = .ok (.value (.bool true)) w := by
  obtain ⟨a, b, c⟩ := a
  simp only [Tri3.val] at hx hy
  simp [execOp, hx, hy, go_sem]
set_option maxRecDepth 100000 in
set_option maxHeartbeats 4000000 in
theorem shown_any (w : World) : Calls Try.prog 9 #[] w (fun e w' => e = .returned (.bool true) ∧ Below w.heap.size w w') := by
  go_enter Try.func9, Try.ntmps9
  go_wp2_with (first | (at_make; refine Stop.un ?_) | (at_builtin; refine Stop.un ?_) | (with_reducible refine Stop.conv 40 9 ?_) | (with_reducible refine Stop.conv 9 40 ?_))
  refine (znum_any 5 _).mono ?_
  rintro e w1 ⟨rfl, b1⟩
  go_wp2_with (first | (at_make; refine Stop.un ?_) | (at_builtin; refine Stop.un ?_) | (with_reducible refine Stop.conv 40 9 ?_) | (with_reducible refine Stop.conv 9 40 ?_))
  refine (znum_any 3 _).mono ?_
  rintro e w2 ⟨rfl, b2⟩
  replace b1 := b1.next b2
  clear b2
  go_wp2_with (first | (at_make; refine Stop.un ?_) | (at_builtin; refine Stop.un ?_) | (with_reducible refine Stop.conv 40 9 ?_) | (with_reducible refine Stop.conv 9 40 ?_))
  have zr := (At.new w2 #[.int .u8 2, .int .i64 5, .string ⟨#[]⟩, .int .u8 0, .int .i64 0, .string ⟨#[]⟩, .int .u8 2, .int .i64 3, .string ⟨#[]⟩] 24)
  have b3 := b1.next ((Below.refl w2.heap.size w2).alloc (Nat.le_refl _) (.cells #[.int .u8 2, .int .i64 5, .string ⟨#[]⟩, .int .u8 0, .int .i64 0, .string ⟨#[]⟩, .int .u8 2, .int .i64 3, .string ⟨#[]⟩] 24))
  clear b1
  refine (zof_any _ 3 3 [⟨2, 5, ⟨#[]⟩⟩, ⟨0, 0, ⟨#[]⟩⟩, ⟨2, 3, ⟨#[]⟩⟩] _ (At.cs (l := vcells [⟨2, 5, ⟨#[]⟩⟩, ⟨0, 0, ⟨#[]⟩⟩, ⟨2, 3, ⟨#[]⟩⟩]) zr) rfl (by omega) (by unfold maxLen; omega)).mono ?_
  rw [show ofZ [⟨2, 5, ⟨#[]⟩⟩, ⟨0, 0, ⟨#[]⟩⟩, ⟨2, 3, ⟨#[]⟩⟩] = ⟨⟨2, 3, ⟨#[]⟩⟩, ⟨2, 5, ⟨#[]⟩⟩, 1, 3⟩ from by kernel_rfl]
  rintro e w4 ⟨rfl, b4⟩
  replace b4 := b3.next b4
  clear b3 zr
  simp only [Zn.val]
  go_upto_region 2 with fail
  have z1 := At.new w4 #[.int .u8 2, .int .i64 3, .string ⟨#[]⟩, .int .u8 2, .int .i64 5, .string ⟨#[]⟩, .int .i64 1, .int .i64 3] 26
  have BB := b4.next ((Below.refl w4.heap.size w4).alloc (Nat.le_refl _) (.cells #[.int .u8 2, .int .i64 3, .string ⟨#[]⟩, .int .u8 2, .int .i64 5, .string ⟨#[]⟩, .int .i64 1, .int .i64 3] 26))
  clear b4
  refine mix_startE 20 rfl (by kernel_rfl) ?_
  intro xq hxq
  replace z1 := At.mono z1 hxq
  replace BB := Below.next BB hxq
  clear hxq
  refine mix_quiet Keeps.ext 0 rfl (by kernel_rfl) rfl ?_
  intro ι U hne hU
  have hcw0 := fun ii => (At.mono z1 (hU ii)).cell 0 rfl
  have hcw1 := fun ii => (At.mono z1 (hU ii)).cell 1 rfl
  have hcw2 := fun ii => (At.mono z1 (hU ii)).cell 2 rfl
  have hcw3 := fun ii => (At.mono z1 (hU ii)).cell 3 rfl
  have hcw4 := fun ii => (At.mono z1 (hU ii)).cell 4 rfl
  have hcw5 := fun ii => (At.mono z1 (hU ii)).cell 5 rfl
  have hcw6 := fun ii => (At.mono z1 (hU ii)).cell 6 rfl
  have hcw7 := fun ii => (At.mono z1 (hU ii)).cell 7 rfl
  go_big_quiet_op
  clear hU hne hcw0 hcw1 hcw2 hcw3 hcw4 hcw5 hcw6 hcw7 U ι
  show wpAnyM _ _ _ _ _ _ _ _ _
  refine mix_any 1 rfl (by kernel_rfl) rfl ?_
  go_wp2_with (first | (at_make; refine Stop.un ?_) | (at_builtin; refine Stop.un ?_) | (with_reducible refine Stop.conv 40 9 ?_) | (with_reducible refine Stop.conv 9 40 ?_))
  refine (znum_any 3 _).mono ?_
  rintro e wq1 ⟨rfl, bq1⟩
  go_wp2_with (first | (at_make; refine Stop.un ?_) | (at_builtin; refine Stop.un ?_) | (with_reducible refine Stop.conv 40 9 ?_) | (with_reducible refine Stop.conv 9 40 ?_))
  refine MixPost.mk bq1 ?_
  replace z1 := At.mono z1 bq1
  replace BB := Below.next BB bq1
  clear bq1
  refine mix_any 2 rfl (by kernel_rfl) rfl ?_
  go_wp2_with (first | (at_make; refine Stop.un ?_) | (at_builtin; refine Stop.un ?_) | (with_reducible refine Stop.conv 40 9 ?_) | (with_reducible refine Stop.conv 9 40 ?_))
  refine (znum_any 5 _).mono ?_
  rintro e wq2 ⟨rfl, bq2⟩
  go_wp2_with (first | (at_make; refine Stop.un ?_) | (at_builtin; refine Stop.un ?_) | (with_reducible refine Stop.conv 40 9 ?_) | (with_reducible refine Stop.conv 9 40 ?_))
  refine MixPost.mk bq2 ?_
  replace z1 := At.mono z1 bq2
  replace BB := Below.next BB bq2
  clear bq2
  refine mix_quiet Keeps.ext 3 rfl (by kernel_rfl) rfl ?_
  intro ι U hne hU
  go_big_quiet_op
  clear hU hne U ι
  show wpAnyM _ _ _ _ _ _ _ _ _
  refine mix_quiet Keeps.ext 4 rfl (by kernel_rfl) rfl ?_
  intro ι U hne hU
  refine quiet_as _ (exec_eqZ ⟨⟨_, _, _⟩, ⟨_, _, _⟩, _, _⟩ rfl rfl) (hne.elim fun ii => ⟨_, ii, rfl⟩) ?_
  go_big_quiet_op
  clear hU hne U ι
  show wpAnyM _ _ _ _ _ _ _ _ _
  refine mix_quiet Keeps.ext 5 rfl (by kernel_rfl) rfl ?_
  intro ι U hne hU
  go_big_quiet_op
  clear hU hne U ι
  show wpAnyM _ _ _ _ _ _ _ _ _
  refine mix_quiet Keeps.ext 6 rfl (by kernel_rfl) rfl ?_
  intro ι U hne hU
  have hcw0 := fun ii => (At.mono z1 (hU ii)).cell 0 rfl
  have hcw1 := fun ii => (At.mono z1 (hU ii)).cell 1 rfl
  have hcw2 := fun ii => (At.mono z1 (hU ii)).cell 2 rfl
  have hcw3 := fun ii => (At.mono z1 (hU ii)).cell 3 rfl
  have hcw4 := fun ii => (At.mono z1 (hU ii)).cell 4 rfl
  have hcw5 := fun ii => (At.mono z1 (hU ii)).cell 5 rfl
  have hcw6 := fun ii => (At.mono z1 (hU ii)).cell 6 rfl
  have hcw7 := fun ii => (At.mono z1 (hU ii)).cell 7 rfl
  go_big_quiet_op
  clear hU hne hcw0 hcw1 hcw2 hcw3 hcw4 hcw5 hcw6 hcw7 U ι
  show wpAnyM _ _ _ _ _ _ _ _ _
  refine mix_quiet Keeps.ext 9 rfl (by kernel_rfl) rfl ?_
  intro ι U hne hU
  go_big_quiet_op
  clear hU hne U ι
  show wpAnyM _ _ _ _ _ _ _ _ _
  refine mix_any 7 rfl (by kernel_rfl) rfl ?_
  go_wp2_with (first | (at_make; refine Stop.un ?_) | (at_builtin; refine Stop.un ?_) | (with_reducible refine Stop.conv 40 9 ?_) | (with_reducible refine Stop.conv 9 40 ?_))
  refine (znum_any 4 _).mono ?_
  rintro e wq3 ⟨rfl, bq3⟩
  go_wp2_with (first | (at_make; refine Stop.un ?_) | (at_builtin; refine Stop.un ?_) | (with_reducible refine Stop.conv 40 9 ?_) | (with_reducible refine Stop.conv 9 40 ?_))
  refine MixPost.mk bq3 ?_
  replace z1 := At.mono z1 bq3
  replace BB := Below.next BB bq3
  clear bq3
  refine mix_any 8 rfl (by kernel_rfl) rfl ?_
  go_wp2_with (first | (at_make; refine Stop.un ?_) | (at_builtin; refine Stop.un ?_) | (with_reducible refine Stop.conv 40 9 ?_) | (with_reducible refine Stop.conv 9 40 ?_))
  refine (zequal_any ⟨⟨2, 3, ⟨#[]⟩⟩, ⟨2, 5, ⟨#[]⟩⟩, 1, 3⟩ ⟨2, 4, ⟨#[]⟩⟩ _).mono ?_
  rw [show equalZ ⟨⟨2, 3, ⟨#[]⟩⟩, ⟨2, 5, ⟨#[]⟩⟩, 1, 3⟩ ⟨2, 4, ⟨#[]⟩⟩ = ⟨true, true, true⟩ from by kernel_rfl]
  simp only [Tri3.val]
  rintro e wq4 ⟨rfl, bq4⟩
  go_wp2_with (first | (at_make; refine Stop.un ?_) | (at_builtin; refine Stop.un ?_) | (with_reducible refine Stop.conv 40 9 ?_) | (with_reducible refine Stop.conv 9 40 ?_))
  refine MixPost.mk bq4 ?_
  replace z1 := At.mono z1 bq4
  replace BB := Below.next BB bq4
  clear bq4
  refine mix_quiet Keeps.ext 10 rfl (by kernel_rfl) rfl ?_
  intro ι U hne hU
  refine quiet_as _ (exec_eqT ⟨_, _, _⟩ rfl rfl) (hne.elim fun ii => ⟨_, ii, rfl⟩) ?_
  go_big_quiet_op
  clear hU hne U ι
  show wpAnyM _ _ _ _ _ _ _ _ _
  refine mix_quiet Keeps.ext 11 rfl (by kernel_rfl) rfl ?_
  intro ι U hne hU
  go_big_quiet_op
  clear hU hne U ι
  show wpAnyM _ _ _ _ _ _ _ _ _
  refine mix_quiet Keeps.ext 12 rfl (by kernel_rfl) rfl ?_
  intro ι U hne hU
  go_big_quiet_op
  clear hU hne U ι
  show wpAnyM _ _ _ _ _ _ _ _ _
  refine mix_quiet Keeps.ext 13 rfl (by kernel_rfl) rfl ?_
  intro ι U hne hU
  have hcw0 := fun ii => (At.mono z1 (hU ii)).cell 0 rfl
  have hcw1 := fun ii => (At.mono z1 (hU ii)).cell 1 rfl
  have hcw2 := fun ii => (At.mono z1 (hU ii)).cell 2 rfl
  have hcw3 := fun ii => (At.mono z1 (hU ii)).cell 3 rfl
  have hcw4 := fun ii => (At.mono z1 (hU ii)).cell 4 rfl
  have hcw5 := fun ii => (At.mono z1 (hU ii)).cell 5 rfl
  have hcw6 := fun ii => (At.mono z1 (hU ii)).cell 6 rfl
  have hcw7 := fun ii => (At.mono z1 (hU ii)).cell 7 rfl
  go_big_quiet_op
  clear hU hne hcw0 hcw1 hcw2 hcw3 hcw4 hcw5 hcw6 hcw7 U ι
  show wpAnyM _ _ _ _ _ _ _ _ _
  refine mix_quiet Keeps.ext 16 rfl (by kernel_rfl) rfl ?_
  intro ι U hne hU
  go_big_quiet_op
  clear hU hne U ι
  show wpAnyM _ _ _ _ _ _ _ _ _
  refine mix_any 14 rfl (by kernel_rfl) rfl ?_
  go_wp2_with (first | (at_make; refine Stop.un ?_) | (at_builtin; refine Stop.un ?_) | (with_reducible refine Stop.conv 40 9 ?_) | (with_reducible refine Stop.conv 9 40 ?_))
  refine (znum_any 6 _).mono ?_
  rintro e wq5 ⟨rfl, bq5⟩
  go_wp2_with (first | (at_make; refine Stop.un ?_) | (at_builtin; refine Stop.un ?_) | (with_reducible refine Stop.conv 40 9 ?_) | (with_reducible refine Stop.conv 9 40 ?_))
  refine MixPost.mk bq5 ?_
  replace z1 := At.mono z1 bq5
  replace BB := Below.next BB bq5
  clear bq5
  refine mix_any 15 rfl (by kernel_rfl) rfl ?_
  go_wp2_with (first | (at_make; refine Stop.un ?_) | (at_builtin; refine Stop.un ?_) | (with_reducible refine Stop.conv 40 9 ?_) | (with_reducible refine Stop.conv 9 40 ?_))
  refine (zequal_any ⟨⟨2, 3, ⟨#[]⟩⟩, ⟨2, 5, ⟨#[]⟩⟩, 1, 3⟩ ⟨2, 6, ⟨#[]⟩⟩ _).mono ?_
  rw [show equalZ ⟨⟨2, 3, ⟨#[]⟩⟩, ⟨2, 5, ⟨#[]⟩⟩, 1, 3⟩ ⟨2, 6, ⟨#[]⟩⟩ = ⟨true, true, false⟩ from by kernel_rfl]
  simp only [Tri3.val]
  rintro e wq6 ⟨rfl, bq6⟩
  go_wp2_with (first | (at_make; refine Stop.un ?_) | (at_builtin; refine Stop.un ?_) | (with_reducible refine Stop.conv 40 9 ?_) | (with_reducible refine Stop.conv 9 40 ?_))
  refine MixPost.mk bq6 ?_
  replace z1 := At.mono z1 bq6
  replace BB := Below.next BB bq6
  clear bq6
  refine mix_quiet Keeps.ext 17 rfl (by kernel_rfl) rfl ?_
  intro ι U hne hU
  refine quiet_as _ (exec_eqT ⟨_, _, _⟩ rfl rfl) (hne.elim fun ii => ⟨_, ii, rfl⟩) ?_
  go_big_quiet_op
  clear hU hne U ι
  show wpAnyM _ _ _ _ _ _ _ _ _
  refine mix_quiet Keeps.ext 18 rfl (by kernel_rfl) rfl ?_
  intro ι U hne hU
  go_big_quiet_op
  clear hU hne U ι
  show wpAnyM _ _ _ _ _ _ _ _ _
  refine mix_quiet Keeps.ext 19 rfl (by kernel_rfl) rfl ?_
  intro ι U hne hU
  go_big_quiet_op
  clear hU hne U ι
  show wpAnyM _ _ _ _ _ _ _ _ _
  refine mix_end (by kernel_rfl) ?_
  go_wp2_with (first | (at_make; refine Stop.un ?_) | (at_builtin; refine Stop.un ?_) | (with_reducible refine Stop.conv 40 9 ?_) | (with_reducible refine Stop.conv 9 40 ?_))
  go_ret
  exact ⟨rfl, BB⟩
end Go.Proofs.Ytdpmaocbfmgmlaa
