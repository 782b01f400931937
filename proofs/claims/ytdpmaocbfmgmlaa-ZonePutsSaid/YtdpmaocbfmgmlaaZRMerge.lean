/- What is known of two parts: what the reference returns. -/
import Derived.Test.YtdpmaocbfmgmlaaZMerge
import Derived.Deep.DeepCutAuto
import Derived.Deep.CutBlock
set_option linter.unusedVariables false
set_option linter.unusedSimpArgs false
namespace Go.Proofs.Ytdpmaocbfmgmlaa
open Go.RowKit
/-- As the reference chooses. -/
def pickV (a b : V) (r : Bool) : V := if r then b else a
def nrmV (v : V) : V := if v.k = 0 then V.zero else v
theorem nrm_lo (a b : V) : nrmV (pickV a b (decide (a.k = 0 ∨ (b.k ≠ 0 ∧ cmpV b a < 0)))) = chooseV a b (-1) := by
  unfold nrmV pickV
  by_cases ea : a.k = 0
  · rw [decide_eq_true (.inl ea), if_pos rfl]
    unfold chooseV
    by_cases eb : b.k = 0
    · rw [if_pos eb, if_pos ⟨ea, eb⟩]
    · rw [if_neg eb, if_neg (fun x => eb x.2), if_pos ea]
  · by_cases eb : b.k = 0
    · rw [decide_eq_false (fun x => x.elim ea (fun y => y.1 eb))]
      simp only [Bool.false_eq_true, if_false]
      rw [if_neg ea]
      unfold chooseV
      rw [if_neg (fun x => ea x.1), if_neg ea, if_pos (.inl eb)]
    · rw [choose_some ea eb, cmpV_neg a b]
      rcases cmpV_range a b with h | h | h
      · simp [h, ea, eb]
      · rw [cmpV_zero.1 h] at *; simp [h, ea, eb]
      · simp [h, ea, eb]
theorem nrm_hi (a b : V) : nrmV (pickV a b (decide (a.k = 0 ∨ (b.k ≠ 0 ∧ 0 < cmpV b a)))) = chooseV a b 1 := by
  unfold nrmV pickV
  by_cases ea : a.k = 0
  · rw [decide_eq_true (.inl ea), if_pos rfl]
    unfold chooseV
    by_cases eb : b.k = 0
    · rw [if_pos eb, if_pos ⟨ea, eb⟩]
    · rw [if_neg eb, if_neg (fun x => eb x.2), if_pos ea]
  · by_cases eb : b.k = 0
    · rw [decide_eq_false (fun x => x.elim ea (fun y => y.1 eb))]
      simp only [Bool.false_eq_true, if_false]
      rw [if_neg ea]
      unfold chooseV
      rw [if_neg (fun x => ea x.1), if_neg ea, if_pos (.inl eb)]
    · rw [choose_some ea eb, cmpV_neg a b]
      rcases cmpV_range a b with h | h | h
      · simp [h, ea, eb]
      · rw [cmpV_zero.1 h] at *; simp [h, ea, eb]
      · simp [h, ea, eb]
set_option maxHeartbeats 4000000 in
theorem rmerge_any (a b : Zn) (w : World) : Calls Try.prog 15 #[a.val, b.val] w (fun e w' => e = .returned (mergeZ a b).val ∧ Below w.heap.size w w') := by
  obtain ⟨⟨k, n, s⟩, ⟨k', n', s'⟩, nu, ma⟩ := a
  obtain ⟨⟨k2, n2, s2⟩, ⟨k2', n2', s2'⟩, nu2, ma2⟩ := b
  unfold mergeZ
  simp only
  rw [← nrm_lo, ← nrm_hi]
  have HC := Lib.hid (fun w => rcompare_x k2 n2 s2 k n s w)
  have HD := Lib.hid (fun w => rcompare_x k2' n2' s2' k' n' s' w)
  generalize cmpV ⟨k2, n2, s2⟩ ⟨k, n, s⟩ = c at HC ⊢
  generalize cmpV ⟨k2', n2', s2'⟩ ⟨k', n', s'⟩ = d at HD ⊢
  generalize hr : decide ((⟨k, n, s⟩ : V).k = 0 ∨ ((⟨k2, n2, s2⟩ : V).k ≠ 0 ∧ c < 0)) = r
  generalize hq : decide ((⟨k', n', s'⟩ : V).k = 0 ∨ ((⟨k2', n2', s2'⟩ : V).k ≠ 0 ∧ 0 < d)) = q
  generalize hv5 : pickV ⟨k, n, s⟩ ⟨k2, n2, s2⟩ r = v5
  generalize hv6 : pickV ⟨k', n', s'⟩ ⟨k2', n2', s2'⟩ q = v6
  generalize hv7 : nrmV v5 = v7
  generalize hv8 : nrmV v6 = v8
  obtain ⟨k5, n5, s5⟩ := v5
  obtain ⟨k6, n6, s6⟩ := v6
  obtain ⟨k7, n7, s7⟩ := v7
  obtain ⟨k8, n8, s8⟩ := v8
  simp only at hr hq
  have HR := Lib.hid hr
  have HQ := Lib.hid hq
  have HV5 := Lib.hid hv5
  have HV6 := Lib.hid hv6
  have HV7 := Lib.hid hv7
  have HV8 := Lib.hid hv8
  clear hr hq hv5 hv6 hv7 hv8
  simp only [Zn.val]
  go_enter Try.func15, Try.ntmps15
  go_upto_region 2 with fail
  have z1 : At ((((w.alloc (.cells #[.int .u8 k, .int .i64 n, .string s, .int .u8 k', .int .i64 n', .string s', .int .i64 nu, .int .i64 ma] 26)).alloc (.cells #[.int .u8 k2, .int .i64 n2, .string s2, .int .u8 k2', .int .i64 n2', .string s2', .int .i64 nu2, .int .i64 ma2] 26)).alloc (.cells #[.int .u8 0, .int .i64 0, .string ⟨#[]⟩, .int .u8 0, .int .i64 0, .string ⟨#[]⟩, .int .i64 0, .int .i64 0] 26)).alloc (.cells #[.int .u8 k, .int .i64 n, .string s, .int .u8 k', .int .i64 n', .string s', .int .i64 (wrap64 (nu + nu2)), .int .i64 (wrap64 (ma + ma2))] 26)) (w.heap.size) #[.int .u8 k, .int .i64 n, .string s, .int .u8 k', .int .i64 n', .string s', .int .i64 nu, .int .i64 ma] 26 := by simpa only [World.size_alloc, Nat.add_assoc, Nat.reduceAdd] using (((At.new w #[.int .u8 k, .int .i64 n, .string s, .int .u8 k', .int .i64 n', .string s', .int .i64 nu, .int .i64 ma] 26).alloc (.cells #[.int .u8 k2, .int .i64 n2, .string s2, .int .u8 k2', .int .i64 n2', .string s2', .int .i64 nu2, .int .i64 ma2] 26)).alloc (.cells #[.int .u8 0, .int .i64 0, .string ⟨#[]⟩, .int .u8 0, .int .i64 0, .string ⟨#[]⟩, .int .i64 0, .int .i64 0] 26)).alloc (.cells #[.int .u8 k, .int .i64 n, .string s, .int .u8 k', .int .i64 n', .string s', .int .i64 (wrap64 (nu + nu2)), .int .i64 (wrap64 (ma + ma2))] 26)
  have z2 : At ((((w.alloc (.cells #[.int .u8 k, .int .i64 n, .string s, .int .u8 k', .int .i64 n', .string s', .int .i64 nu, .int .i64 ma] 26)).alloc (.cells #[.int .u8 k2, .int .i64 n2, .string s2, .int .u8 k2', .int .i64 n2', .string s2', .int .i64 nu2, .int .i64 ma2] 26)).alloc (.cells #[.int .u8 0, .int .i64 0, .string ⟨#[]⟩, .int .u8 0, .int .i64 0, .string ⟨#[]⟩, .int .i64 0, .int .i64 0] 26)).alloc (.cells #[.int .u8 k, .int .i64 n, .string s, .int .u8 k', .int .i64 n', .string s', .int .i64 (wrap64 (nu + nu2)), .int .i64 (wrap64 (ma + ma2))] 26)) (w.heap.size + 1) #[.int .u8 k2, .int .i64 n2, .string s2, .int .u8 k2', .int .i64 n2', .string s2', .int .i64 nu2, .int .i64 ma2] 26 := by simpa only [World.size_alloc, Nat.add_assoc, Nat.reduceAdd] using ((At.new (w.alloc (.cells #[.int .u8 k, .int .i64 n, .string s, .int .u8 k', .int .i64 n', .string s', .int .i64 nu, .int .i64 ma] 26)) #[.int .u8 k2, .int .i64 n2, .string s2, .int .u8 k2', .int .i64 n2', .string s2', .int .i64 nu2, .int .i64 ma2] 26).alloc (.cells #[.int .u8 0, .int .i64 0, .string ⟨#[]⟩, .int .u8 0, .int .i64 0, .string ⟨#[]⟩, .int .i64 0, .int .i64 0] 26)).alloc (.cells #[.int .u8 k, .int .i64 n, .string s, .int .u8 k', .int .i64 n', .string s', .int .i64 (wrap64 (nu + nu2)), .int .i64 (wrap64 (ma + ma2))] 26)
  have z3 : At ((((w.alloc (.cells #[.int .u8 k, .int .i64 n, .string s, .int .u8 k', .int .i64 n', .string s', .int .i64 nu, .int .i64 ma] 26)).alloc (.cells #[.int .u8 k2, .int .i64 n2, .string s2, .int .u8 k2', .int .i64 n2', .string s2', .int .i64 nu2, .int .i64 ma2] 26)).alloc (.cells #[.int .u8 0, .int .i64 0, .string ⟨#[]⟩, .int .u8 0, .int .i64 0, .string ⟨#[]⟩, .int .i64 0, .int .i64 0] 26)).alloc (.cells #[.int .u8 k, .int .i64 n, .string s, .int .u8 k', .int .i64 n', .string s', .int .i64 (wrap64 (nu + nu2)), .int .i64 (wrap64 (ma + ma2))] 26)) (w.heap.size + 2) #[.int .u8 0, .int .i64 0, .string ⟨#[]⟩, .int .u8 0, .int .i64 0, .string ⟨#[]⟩, .int .i64 0, .int .i64 0] 26 := by simpa only [World.size_alloc, Nat.add_assoc, Nat.reduceAdd] using (At.new ((w.alloc (.cells #[.int .u8 k, .int .i64 n, .string s, .int .u8 k', .int .i64 n', .string s', .int .i64 nu, .int .i64 ma] 26)).alloc (.cells #[.int .u8 k2, .int .i64 n2, .string s2, .int .u8 k2', .int .i64 n2', .string s2', .int .i64 nu2, .int .i64 ma2] 26)) #[.int .u8 0, .int .i64 0, .string ⟨#[]⟩, .int .u8 0, .int .i64 0, .string ⟨#[]⟩, .int .i64 0, .int .i64 0] 26).alloc (.cells #[.int .u8 k, .int .i64 n, .string s, .int .u8 k', .int .i64 n', .string s', .int .i64 (wrap64 (nu + nu2)), .int .i64 (wrap64 (ma + ma2))] 26)
  have z4 : At ((((w.alloc (.cells #[.int .u8 k, .int .i64 n, .string s, .int .u8 k', .int .i64 n', .string s', .int .i64 nu, .int .i64 ma] 26)).alloc (.cells #[.int .u8 k2, .int .i64 n2, .string s2, .int .u8 k2', .int .i64 n2', .string s2', .int .i64 nu2, .int .i64 ma2] 26)).alloc (.cells #[.int .u8 0, .int .i64 0, .string ⟨#[]⟩, .int .u8 0, .int .i64 0, .string ⟨#[]⟩, .int .i64 0, .int .i64 0] 26)).alloc (.cells #[.int .u8 k, .int .i64 n, .string s, .int .u8 k', .int .i64 n', .string s', .int .i64 (wrap64 (nu + nu2)), .int .i64 (wrap64 (ma + ma2))] 26)) (w.heap.size + 3) #[.int .u8 k, .int .i64 n, .string s, .int .u8 k', .int .i64 n', .string s', .int .i64 (wrap64 (nu + nu2)), .int .i64 (wrap64 (ma + ma2))] 26 := by simpa only [World.size_alloc, Nat.add_assoc, Nat.reduceAdd] using At.new (((w.alloc (.cells #[.int .u8 k, .int .i64 n, .string s, .int .u8 k', .int .i64 n', .string s', .int .i64 nu, .int .i64 ma] 26)).alloc (.cells #[.int .u8 k2, .int .i64 n2, .string s2, .int .u8 k2', .int .i64 n2', .string s2', .int .i64 nu2, .int .i64 ma2] 26)).alloc (.cells #[.int .u8 0, .int .i64 0, .string ⟨#[]⟩, .int .u8 0, .int .i64 0, .string ⟨#[]⟩, .int .i64 0, .int .i64 0] 26)) #[.int .u8 k, .int .i64 n, .string s, .int .u8 k', .int .i64 n', .string s', .int .i64 (wrap64 (nu + nu2)), .int .i64 (wrap64 (ma + ma2))] 26
  have BB : Below w.heap.size w ((((w.alloc (.cells #[.int .u8 k, .int .i64 n, .string s, .int .u8 k', .int .i64 n', .string s', .int .i64 nu, .int .i64 ma] 26)).alloc (.cells #[.int .u8 k2, .int .i64 n2, .string s2, .int .u8 k2', .int .i64 n2', .string s2', .int .i64 nu2, .int .i64 ma2] 26)).alloc (.cells #[.int .u8 0, .int .i64 0, .string ⟨#[]⟩, .int .u8 0, .int .i64 0, .string ⟨#[]⟩, .int .i64 0, .int .i64 0] 26)).alloc (.cells #[.int .u8 k, .int .i64 n, .string s, .int .u8 k', .int .i64 n', .string s', .int .i64 (wrap64 (nu + nu2)), .int .i64 (wrap64 (ma + ma2))] 26)) := Below.alloc (Below.alloc (Below.alloc (Below.alloc (Below.refl w.heap.size w) (by (try simp only [World.size_alloc]) <;> omega) (.cells #[.int .u8 k, .int .i64 n, .string s, .int .u8 k', .int .i64 n', .string s', .int .i64 nu, .int .i64 ma] 26)) (by (try simp only [World.size_alloc]) <;> omega) (.cells #[.int .u8 k2, .int .i64 n2, .string s2, .int .u8 k2', .int .i64 n2', .string s2', .int .i64 nu2, .int .i64 ma2] 26)) (by (try simp only [World.size_alloc]) <;> omega) (.cells #[.int .u8 0, .int .i64 0, .string ⟨#[]⟩, .int .u8 0, .int .i64 0, .string ⟨#[]⟩, .int .i64 0, .int .i64 0] 26)) (by (try simp only [World.size_alloc]) <;> omega) (.cells #[.int .u8 k, .int .i64 n, .string s, .int .u8 k', .int .i64 n', .string s', .int .i64 (wrap64 (nu + nu2)), .int .i64 (wrap64 (ma + ma2))] 26)
  go_cut [38] (fun x wx => x = .bool r ∧ At wx w.heap.size #[.int .u8 k, .int .i64 n, .string s, .int .u8 k', .int .i64 n', .string s', .int .i64 nu, .int .i64 ma] 26 ∧ At wx (w.heap.size + 1) #[.int .u8 k2, .int .i64 n2, .string s2, .int .u8 k2', .int .i64 n2', .string s2', .int .i64 nu2, .int .i64 ma2] 26 ∧ At wx (w.heap.size + 2) #[.int .u8 0, .int .i64 0, .string ⟨#[]⟩, .int .u8 0, .int .i64 0, .string ⟨#[]⟩, .int .i64 0, .int .i64 0] 26 ∧ At wx (w.heap.size + 3) #[.int .u8 k, .int .i64 n, .string s, .int .u8 k', .int .i64 n', .string s', .int .i64 (wrap64 (nu + nu2)), .int .i64 (wrap64 (ma + ma2))] 26 ∧ Below w.heap.size w wx)
  case first =>
    have hr := HR.out
    have x0 := z1.cell 0 rfl
    have x1 := z1.cell 1 rfl
    have x2 := z1.cell 2 rfl
    have x3 := z1.cell 3 rfl
    have x4 := z1.cell 4 rfl
    have x5 := z1.cell 5 rfl
    have x6 := z1.cell 6 rfl
    have x7 := z1.cell 7 rfl
    have xl := z1.lt
    have y0 := z2.cell 0 rfl
    have y1 := z2.cell 1 rfl
    have y2 := z2.cell 2 rfl
    have y3 := z2.cell 3 rfl
    have y4 := z2.cell 4 rfl
    have y5 := z2.cell 5 rfl
    have y6 := z2.cell 6 rfl
    have y7 := z2.cell 7 rfl
    have yl := z2.lt
    have v0 := z4.cell 0 rfl
    have v1 := z4.cell 1 rfl
    have v2 := z4.cell 2 rfl
    have v3 := z4.cell 3 rfl
    have v4 := z4.cell 4 rfl
    have v5 := z4.cell 5 rfl
    have v6 := z4.cell 6 rfl
    have v7 := z4.cell 7 rfl
    have vl := z4.lt
    simp only [Nat.add_assoc, Nat.reduceAdd] at *
    by_cases h1 : k = 0
    ·
      rw [decide_eq_true (Or.inl h1)] at hr
      subst hr
      have h2 : (k == 0) = true := by simpa using h1
      clear h1
      go_wp2_with (first | (at_make; refine Stop.un ?_) | (at_builtin; refine Stop.un ?_) | (with_reducible refine Stop.conv 40 9 ?_) | (with_reducible refine Stop.conv 9 40 ?_))
      go_meet
      exact ⟨rfl, z1, z2, z3, z4, BB⟩
    ·
      have h2 : (k == 0) = false := by simpa using h1
      by_cases h3 : k2 = 0
      ·
        rw [decide_eq_false (fun x => x.elim h1 (fun y => y.1 h3))] at hr
        subst hr
        have h4 : (k2 != 0) = false := by simpa using h3
        have h5 : (k2 == 0) = true := by simpa using h3
        clear h3
        go_wp2_with (first | (at_make; refine Stop.un ?_) | (at_builtin; refine Stop.un ?_) | (with_reducible refine Stop.conv 40 9 ?_) | (with_reducible refine Stop.conv 9 40 ?_))
        go_meet
        exact ⟨rfl, z1, z2, z3, z4, BB⟩
      ·
        have h4 : (k2 != 0) = true := by simpa using h3
        have h5 : (k2 == 0) = false := by simpa using h3
        go_wp2_with (first | (at_make; refine Stop.un ?_) | (at_builtin; refine Stop.un ?_) | (with_reducible refine Stop.conv 40 9 ?_) | (with_reducible refine Stop.conv 9 40 ?_))
        refine (HC.out _).mono ?_
        rintro e wq ⟨rfl, bq⟩
        replace z1 := At.mono z1 bq
        replace z2 := At.mono z2 bq
        replace z3 := At.mono z3 bq
        replace z4 := At.mono z4 bq
        replace BB := Below.next BB bq
        clear bq
        go_wp2_with (first | (at_make; refine Stop.un ?_) | (at_builtin; refine Stop.un ?_) | (with_reducible refine Stop.conv 40 9 ?_) | (with_reducible refine Stop.conv 9 40 ?_))
        go_meet
        refine ⟨congrArg Value.bool ?_, z1, z2, z3, z4, BB⟩
        rw [← hr]
        simp [h1, h3]
  case rest =>
    obtain ⟨rfl, z1, z2, z3, z4, BB⟩ := hcut
    go_upto_if 38 with fail
    go_cut [] (fun wx => At wx w.heap.size #[.int .u8 k, .int .i64 n, .string s, .int .u8 k', .int .i64 n', .string s', .int .i64 nu, .int .i64 ma] 26 ∧ At wx (w.heap.size + 1) #[.int .u8 k2, .int .i64 n2, .string s2, .int .u8 k2', .int .i64 n2', .string s2', .int .i64 nu2, .int .i64 ma2] 26 ∧ At wx (w.heap.size + 2) #[.int .u8 0, .int .i64 0, .string ⟨#[]⟩, .int .u8 0, .int .i64 0, .string ⟨#[]⟩, .int .i64 0, .int .i64 0] 26 ∧ At wx (w.heap.size + 3) #[.int .u8 k5, .int .i64 n5, .string s5, .int .u8 k', .int .i64 n', .string s', .int .i64 (wrap64 (nu + nu2)), .int .i64 (wrap64 (ma + ma2))] 26 ∧ Below w.heap.size w wx)
    case first =>
      have y0 := z2.cell 0 rfl
      have y1 := z2.cell 1 rfl
      have y2 := z2.cell 2 rfl
      have y3 := z2.cell 3 rfl
      have y4 := z2.cell 4 rfl
      have y5 := z2.cell 5 rfl
      have y6 := z2.cell 6 rfl
      have y7 := z2.cell 7 rfl
      have yl := z2.lt
      have v0 := z4.cell 0 rfl
      have vf0 := z4.free 0
      have v1 := z4.cell 1 rfl
      have vf1 := z4.free 1
      have v2 := z4.cell 2 rfl
      have vf2 := z4.free 2
      have v3 := z4.cell 3 rfl
      have vf3 := z4.free 3
      have v4 := z4.cell 4 rfl
      have vf4 := z4.free 4
      have v5 := z4.cell 5 rfl
      have vf5 := z4.free 5
      have v6 := z4.cell 6 rfl
      have vf6 := z4.free 6
      have v7 := z4.cell 7 rfl
      have vf7 := z4.free 7
      have vl := z4.lt
      simp only [Nat.add_assoc, Nat.reduceAdd] at *
      have hv := HV5.out
      cases r with
      | true =>
        simp only [pickV, if_true, V.mk.injEq] at hv
        obtain ⟨rfl, rfl, rfl⟩ := hv
        go_wp2_with (first | (at_make; refine Stop.un ?_) | (at_builtin; refine Stop.un ?_) | (with_reducible refine Stop.conv 40 9 ?_) | (with_reducible refine Stop.conv 9 40 ?_))
        go_meet
        have a1 := z4.set 0 (.int .u8 k2)
        have a2 := a1.set 1 (.int .i64 n2)
        have a3 := a2.set 2 (.string s2)
        exact ⟨z1.off (by simp <;> omega) _ |>.off (by simp <;> omega) _ |>.off (by simp <;> omega) _, z2.off (by simp <;> omega) _ |>.off (by simp <;> omega) _ |>.off (by simp <;> omega) _, z3.off (by simp <;> omega) _ |>.off (by simp <;> omega) _ |>.off (by simp <;> omega) _, a3, ((BB.setCell (by simp <;> omega) _).setCell (by simp <;> omega) _).setCell (by simp <;> omega) _⟩
      | false =>
        simp only [pickV, Bool.false_eq_true, if_false, V.mk.injEq] at hv
        obtain ⟨rfl, rfl, rfl⟩ := hv
        go_wp2_with (first | (at_make; refine Stop.un ?_) | (at_builtin; refine Stop.un ?_) | (with_reducible refine Stop.conv 40 9 ?_) | (with_reducible refine Stop.conv 9 40 ?_))
        go_meet
        exact ⟨z1, z2, z3, z4, BB⟩
    case rest =>
      obtain ⟨z1, z2, z3, z4, BB⟩ := hcut
      go_upto_region 4 with fail
      go_cut [59] (fun x wx => x = .bool q ∧ At wx w.heap.size #[.int .u8 k, .int .i64 n, .string s, .int .u8 k', .int .i64 n', .string s', .int .i64 nu, .int .i64 ma] 26 ∧ At wx (w.heap.size + 1) #[.int .u8 k2, .int .i64 n2, .string s2, .int .u8 k2', .int .i64 n2', .string s2', .int .i64 nu2, .int .i64 ma2] 26 ∧ At wx (w.heap.size + 2) #[.int .u8 0, .int .i64 0, .string ⟨#[]⟩, .int .u8 0, .int .i64 0, .string ⟨#[]⟩, .int .i64 0, .int .i64 0] 26 ∧ At wx (w.heap.size + 3) #[.int .u8 k5, .int .i64 n5, .string s5, .int .u8 k', .int .i64 n', .string s', .int .i64 (wrap64 (nu + nu2)), .int .i64 (wrap64 (ma + ma2))] 26 ∧ Below w.heap.size w wx)
      case first =>
        have hr := HQ.out
        have x0 := z1.cell 0 rfl
        have x1 := z1.cell 1 rfl
        have x2 := z1.cell 2 rfl
        have x3 := z1.cell 3 rfl
        have x4 := z1.cell 4 rfl
        have x5 := z1.cell 5 rfl
        have x6 := z1.cell 6 rfl
        have x7 := z1.cell 7 rfl
        have xl := z1.lt
        have y0 := z2.cell 0 rfl
        have y1 := z2.cell 1 rfl
        have y2 := z2.cell 2 rfl
        have y3 := z2.cell 3 rfl
        have y4 := z2.cell 4 rfl
        have y5 := z2.cell 5 rfl
        have y6 := z2.cell 6 rfl
        have y7 := z2.cell 7 rfl
        have yl := z2.lt
        have v0 := z4.cell 0 rfl
        have v1 := z4.cell 1 rfl
        have v2 := z4.cell 2 rfl
        have v3 := z4.cell 3 rfl
        have v4 := z4.cell 4 rfl
        have v5 := z4.cell 5 rfl
        have v6 := z4.cell 6 rfl
        have v7 := z4.cell 7 rfl
        have vl := z4.lt
        simp only [Nat.add_assoc, Nat.reduceAdd] at *
        by_cases h1 : k' = 0
        ·
          rw [decide_eq_true (Or.inl h1)] at hr
          subst hr
          have h2 : (k' == 0) = true := by simpa using h1
          clear h1
          go_wp2_with (first | (at_make; refine Stop.un ?_) | (at_builtin; refine Stop.un ?_) | (with_reducible refine Stop.conv 40 9 ?_) | (with_reducible refine Stop.conv 9 40 ?_))
          go_meet
          exact ⟨rfl, z1, z2, z3, z4, BB⟩
        ·
          have h2 : (k' == 0) = false := by simpa using h1
          by_cases h3 : k2' = 0
          ·
            rw [decide_eq_false (fun x => x.elim h1 (fun y => y.1 h3))] at hr
            subst hr
            have h4 : (k2' != 0) = false := by simpa using h3
            have h5 : (k2' == 0) = true := by simpa using h3
            clear h3
            go_wp2_with (first | (at_make; refine Stop.un ?_) | (at_builtin; refine Stop.un ?_) | (with_reducible refine Stop.conv 40 9 ?_) | (with_reducible refine Stop.conv 9 40 ?_))
            go_meet
            exact ⟨rfl, z1, z2, z3, z4, BB⟩
          ·
            have h4 : (k2' != 0) = true := by simpa using h3
            have h5 : (k2' == 0) = false := by simpa using h3
            go_wp2_with (first | (at_make; refine Stop.un ?_) | (at_builtin; refine Stop.un ?_) | (with_reducible refine Stop.conv 40 9 ?_) | (with_reducible refine Stop.conv 9 40 ?_))
            refine (HD.out _).mono ?_
            rintro e wq ⟨rfl, bq⟩
            replace z1 := At.mono z1 bq
            replace z2 := At.mono z2 bq
            replace z3 := At.mono z3 bq
            replace z4 := At.mono z4 bq
            replace BB := Below.next BB bq
            clear bq
            go_wp2_with (first | (at_make; refine Stop.un ?_) | (at_builtin; refine Stop.un ?_) | (with_reducible refine Stop.conv 40 9 ?_) | (with_reducible refine Stop.conv 9 40 ?_))
            go_meet
            refine ⟨congrArg Value.bool ?_, z1, z2, z3, z4, BB⟩
            rw [← hr]
            simp [h1, h3]
      case rest =>
        obtain ⟨rfl, z1, z2, z3, z4, BB⟩ := hcut
        go_upto_if 59 with fail
        go_cut [] (fun wx => At wx w.heap.size #[.int .u8 k, .int .i64 n, .string s, .int .u8 k', .int .i64 n', .string s', .int .i64 nu, .int .i64 ma] 26 ∧ At wx (w.heap.size + 1) #[.int .u8 k2, .int .i64 n2, .string s2, .int .u8 k2', .int .i64 n2', .string s2', .int .i64 nu2, .int .i64 ma2] 26 ∧ At wx (w.heap.size + 2) #[.int .u8 0, .int .i64 0, .string ⟨#[]⟩, .int .u8 0, .int .i64 0, .string ⟨#[]⟩, .int .i64 0, .int .i64 0] 26 ∧ At wx (w.heap.size + 3) #[.int .u8 k5, .int .i64 n5, .string s5, .int .u8 k6, .int .i64 n6, .string s6, .int .i64 (wrap64 (nu + nu2)), .int .i64 (wrap64 (ma + ma2))] 26 ∧ Below w.heap.size w wx)
        case first =>
          have y0 := z2.cell 0 rfl
          have y1 := z2.cell 1 rfl
          have y2 := z2.cell 2 rfl
          have y3 := z2.cell 3 rfl
          have y4 := z2.cell 4 rfl
          have y5 := z2.cell 5 rfl
          have y6 := z2.cell 6 rfl
          have y7 := z2.cell 7 rfl
          have yl := z2.lt
          have v0 := z4.cell 0 rfl
          have vf0 := z4.free 0
          have v1 := z4.cell 1 rfl
          have vf1 := z4.free 1
          have v2 := z4.cell 2 rfl
          have vf2 := z4.free 2
          have v3 := z4.cell 3 rfl
          have vf3 := z4.free 3
          have v4 := z4.cell 4 rfl
          have vf4 := z4.free 4
          have v5 := z4.cell 5 rfl
          have vf5 := z4.free 5
          have v6 := z4.cell 6 rfl
          have vf6 := z4.free 6
          have v7 := z4.cell 7 rfl
          have vf7 := z4.free 7
          have vl := z4.lt
          simp only [Nat.add_assoc, Nat.reduceAdd] at *
          have hv := HV6.out
          cases q with
          | true =>
            simp only [pickV, if_true, V.mk.injEq] at hv
            obtain ⟨rfl, rfl, rfl⟩ := hv
            go_wp2_with (first | (at_make; refine Stop.un ?_) | (at_builtin; refine Stop.un ?_) | (with_reducible refine Stop.conv 40 9 ?_) | (with_reducible refine Stop.conv 9 40 ?_))
            go_meet
            have a1 := z4.set 3 (.int .u8 k2')
            have a2 := a1.set 4 (.int .i64 n2')
            have a3 := a2.set 5 (.string s2')
            exact ⟨z1.off (by simp <;> omega) _ |>.off (by simp <;> omega) _ |>.off (by simp <;> omega) _, z2.off (by simp <;> omega) _ |>.off (by simp <;> omega) _ |>.off (by simp <;> omega) _, z3.off (by simp <;> omega) _ |>.off (by simp <;> omega) _ |>.off (by simp <;> omega) _, a3, ((BB.setCell (by simp <;> omega) _).setCell (by simp <;> omega) _).setCell (by simp <;> omega) _⟩
          | false =>
            simp only [pickV, Bool.false_eq_true, if_false, V.mk.injEq] at hv
            obtain ⟨rfl, rfl, rfl⟩ := hv
            go_wp2_with (first | (at_make; refine Stop.un ?_) | (at_builtin; refine Stop.un ?_) | (with_reducible refine Stop.conv 40 9 ?_) | (with_reducible refine Stop.conv 9 40 ?_))
            go_meet
            exact ⟨z1, z2, z3, z4, BB⟩
        case rest =>
          obtain ⟨z1, z2, z3, z4, BB⟩ := hcut
          have v0 := z4.cell 0 rfl
          have vf0 := z4.free 0
          have v1 := z4.cell 1 rfl
          have vf1 := z4.free 1
          have v2 := z4.cell 2 rfl
          have vf2 := z4.free 2
          have v3 := z4.cell 3 rfl
          have vf3 := z4.free 3
          have v4 := z4.cell 4 rfl
          have vf4 := z4.free 4
          have v5 := z4.cell 5 rfl
          have vf5 := z4.free 5
          have v6 := z4.cell 6 rfl
          have vf6 := z4.free 6
          have v7 := z4.cell 7 rfl
          have vf7 := z4.free 7
          have vl := z4.lt
          go_upto_if 66 with fail
          go_cut [] (fun wx => At wx w.heap.size #[.int .u8 k, .int .i64 n, .string s, .int .u8 k', .int .i64 n', .string s', .int .i64 nu, .int .i64 ma] 26 ∧ At wx (w.heap.size + 1) #[.int .u8 k2, .int .i64 n2, .string s2, .int .u8 k2', .int .i64 n2', .string s2', .int .i64 nu2, .int .i64 ma2] 26 ∧ At wx (w.heap.size + 2) #[.int .u8 0, .int .i64 0, .string ⟨#[]⟩, .int .u8 0, .int .i64 0, .string ⟨#[]⟩, .int .i64 0, .int .i64 0] 26 ∧ At wx (w.heap.size + 3) #[.int .u8 k7, .int .i64 n7, .string s7, .int .u8 k6, .int .i64 n6, .string s6, .int .i64 (wrap64 (nu + nu2)), .int .i64 (wrap64 (ma + ma2))] 26 ∧ Below w.heap.size w wx)
          case first =>
            have hv := HV7.out
            by_cases h1 : k5 = 0
            ·
              simp only [nrmV, h1, if_true, V.zero, V.mk.injEq] at hv
              obtain ⟨rfl, rfl, rfl⟩ := hv
              have h2 : (k5 == 0) = true := by simpa using h1
              clear h1
              go_wp2_with (first | (at_make; refine Stop.un ?_) | (at_builtin; refine Stop.un ?_) | (with_reducible refine Stop.conv 40 9 ?_) | (with_reducible refine Stop.conv 9 40 ?_))
              go_meet
              have a1 := z4.set 0 (.int .u8 0)
              have a2 := a1.set 1 (.int .i64 0)
              have a3 := a2.set 2 (.string ByteArray.empty)
              exact ⟨z1.off (by simp <;> omega) _ |>.off (by simp <;> omega) _ |>.off (by simp <;> omega) _, z2.off (by simp <;> omega) _ |>.off (by simp <;> omega) _ |>.off (by simp <;> omega) _, z3.off (by simp <;> omega) _ |>.off (by simp <;> omega) _ |>.off (by simp <;> omega) _, a3, ((BB.setCell (by simp <;> omega) _).setCell (by simp <;> omega) _).setCell (by simp <;> omega) _⟩
            ·
              simp only [nrmV, h1, if_false, V.mk.injEq] at hv
              obtain ⟨rfl, rfl, rfl⟩ := hv
              have h2 : (k5 == 0) = false := by simpa using h1
              go_wp2_with (first | (at_make; refine Stop.un ?_) | (at_builtin; refine Stop.un ?_) | (with_reducible refine Stop.conv 40 9 ?_) | (with_reducible refine Stop.conv 9 40 ?_))
              go_meet
              exact ⟨z1, z2, z3, z4, BB⟩
          case rest =>
            obtain ⟨z1, z2, z3, z4, BB⟩ := hcut
            have v0 := z4.cell 0 rfl
            have vf0 := z4.free 0
            have v1 := z4.cell 1 rfl
            have vf1 := z4.free 1
            have v2 := z4.cell 2 rfl
            have vf2 := z4.free 2
            have v3 := z4.cell 3 rfl
            have vf3 := z4.free 3
            have v4 := z4.cell 4 rfl
            have vf4 := z4.free 4
            have v5 := z4.cell 5 rfl
            have vf5 := z4.free 5
            have v6 := z4.cell 6 rfl
            have vf6 := z4.free 6
            have v7 := z4.cell 7 rfl
            have vf7 := z4.free 7
            have vl := z4.lt
            go_upto_if 72 with fail
            go_cut [] (fun wx => At wx w.heap.size #[.int .u8 k, .int .i64 n, .string s, .int .u8 k', .int .i64 n', .string s', .int .i64 nu, .int .i64 ma] 26 ∧ At wx (w.heap.size + 1) #[.int .u8 k2, .int .i64 n2, .string s2, .int .u8 k2', .int .i64 n2', .string s2', .int .i64 nu2, .int .i64 ma2] 26 ∧ At wx (w.heap.size + 2) #[.int .u8 0, .int .i64 0, .string ⟨#[]⟩, .int .u8 0, .int .i64 0, .string ⟨#[]⟩, .int .i64 0, .int .i64 0] 26 ∧ At wx (w.heap.size + 3) #[.int .u8 k7, .int .i64 n7, .string s7, .int .u8 k8, .int .i64 n8, .string s8, .int .i64 (wrap64 (nu + nu2)), .int .i64 (wrap64 (ma + ma2))] 26 ∧ Below w.heap.size w wx)
            case first =>
              have hv := HV8.out
              by_cases h1 : k6 = 0
              ·
                simp only [nrmV, h1, if_true, V.zero, V.mk.injEq] at hv
                obtain ⟨rfl, rfl, rfl⟩ := hv
                have h2 : (k6 == 0) = true := by simpa using h1
                clear h1
                go_wp2_with (first | (at_make; refine Stop.un ?_) | (at_builtin; refine Stop.un ?_) | (with_reducible refine Stop.conv 40 9 ?_) | (with_reducible refine Stop.conv 9 40 ?_))
                go_meet
                have a1 := z4.set 3 (.int .u8 0)
                have a2 := a1.set 4 (.int .i64 0)
                have a3 := a2.set 5 (.string ByteArray.empty)
                exact ⟨z1.off (by simp <;> omega) _ |>.off (by simp <;> omega) _ |>.off (by simp <;> omega) _, z2.off (by simp <;> omega) _ |>.off (by simp <;> omega) _ |>.off (by simp <;> omega) _, z3.off (by simp <;> omega) _ |>.off (by simp <;> omega) _ |>.off (by simp <;> omega) _, a3, ((BB.setCell (by simp <;> omega) _).setCell (by simp <;> omega) _).setCell (by simp <;> omega) _⟩
              ·
                simp only [nrmV, h1, if_false, V.mk.injEq] at hv
                obtain ⟨rfl, rfl, rfl⟩ := hv
                have h2 : (k6 == 0) = false := by simpa using h1
                go_wp2_with (first | (at_make; refine Stop.un ?_) | (at_builtin; refine Stop.un ?_) | (with_reducible refine Stop.conv 40 9 ?_) | (with_reducible refine Stop.conv 9 40 ?_))
                go_meet
                exact ⟨z1, z2, z3, z4, BB⟩
            case rest =>
              obtain ⟨z1, z2, z3, z4, BB⟩ := hcut
              have v0 := z4.cell 0 rfl
              have v1 := z4.cell 1 rfl
              have v2 := z4.cell 2 rfl
              have v3 := z4.cell 3 rfl
              have v4 := z4.cell 4 rfl
              have v5 := z4.cell 5 rfl
              have v6 := z4.cell 6 rfl
              have v7 := z4.cell 7 rfl
              have vl := z4.lt
              have u0 := z3.cell 0 rfl
              have uf0 := z3.free 0
              have u1 := z3.cell 1 rfl
              have uf1 := z3.free 1
              have u2 := z3.cell 2 rfl
              have uf2 := z3.free 2
              have u3 := z3.cell 3 rfl
              have uf3 := z3.free 3
              have u4 := z3.cell 4 rfl
              have uf4 := z3.free 4
              have u5 := z3.cell 5 rfl
              have uf5 := z3.free 5
              have u6 := z3.cell 6 rfl
              have uf6 := z3.free 6
              have u7 := z3.cell 7 rfl
              have uf7 := z3.free 7
              have ul := z3.lt
              go_wp2_with (first | (at_make; refine Stop.un ?_) | (at_builtin; refine Stop.un ?_) | (with_reducible refine Stop.conv 40 9 ?_) | (with_reducible refine Stop.conv 9 40 ?_))
              have RQ := z3.set8 (.int .u8 k7) (.int .i64 n7) (.string s7) (.int .u8 k8) (.int .i64 n8) (.string s8) (.int .i64 (wrap64 (nu + nu2))) (.int .i64 (wrap64 (ma + ma2)))
              have rq0 := RQ.cell 0 rfl
              have rq1 := RQ.cell 1 rfl
              have rq2 := RQ.cell 2 rfl
              have rq3 := RQ.cell 3 rfl
              have rq4 := RQ.cell 4 rfl
              have rq5 := RQ.cell 5 rfl
              have rq6 := RQ.cell 6 rfl
              have rq7 := RQ.cell 7 rfl
              have rql := RQ.lt
              exact bodyPost_ret (v := .agg #[.int .u8 k7, .int .i64 n7, .string s7, .int .u8 k8, .int .i64 n8, .string s8, .int .i64 (wrap64 (nu + nu2)), .int .i64 (wrap64 (ma + ma2))]) (by simp [results, Try.results15, go_sem, rq0, rq1, rq2, rq3, rq4, rq5, rq6, rq7]) rfl ⟨rfl, below_set8 BB _ _ _ _ _ _ _ _  (by omega)⟩
end Go.Proofs.Ytdpmaocbfmgmlaa
