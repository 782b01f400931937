/- What may come of what is known: what the reference returns. -/
import Derived.Test.YtdpmaocbfmgmlaaZAsk
set_option linter.unusedVariables false
set_option linter.unusedSimpArgs false
namespace Go.Proofs.Ytdpmaocbfmgmlaa
open Go.RowKit
theorem cmp_ne (a b : V) : decide (cmpV a b ≠ 0) = !eqV b a := by
  by_cases h : a = b
  · subst h; simp [cmpV_refl, eqV_refl]
  · have h1 : cmpV a b ≠ 0 := fun e => h (cmpV_zero.1 e)
    have h2 : eqV b a = false := by
      cases e : eqV b a
      · rfl
      · exact absurd (eqV_iff.1 e).symm h
    simp [h1, h2]
set_option maxHeartbeats 12000000 in
theorem runknown_any (z : Zn) (v : V) (w : World) : Calls Try.prog 37 #[z.val, v.val] w (fun e w' => e = .returned (unZ z v).val ∧ Below w.heap.size w w') := by
  obtain ⟨⟨k, n, s⟩, ⟨k', n', s'⟩, nu, ma⟩ := z
  obtain ⟨k2, n2, s2⟩ := v
  simp only [Zn.val, V.val]
  generalize he : unZ ⟨⟨k, n, s⟩, ⟨k', n', s'⟩, nu, ma⟩ ⟨k2, n2, s2⟩ = t
  obtain ⟨b0, b1, b2⟩ := t
  have HE := Lib.hid he
  clear he
  simp only [Tri3.val]
  go_enter Try.func37, Try.ntmps37
  go_upto_region 2 with fail
  have z1 : At ((((w.alloc (.cells #[.int .u8 k, .int .i64 n, .string s, .int .u8 k', .int .i64 n', .string s', .int .i64 nu, .int .i64 ma] 26)).alloc (.cells #[.int .u8 k2, .int .i64 n2, .string s2] 24)).alloc (.cells #[.bool false, .bool false, .bool false] 34)).alloc (.cells #[.bool false, .bool false, .bool false] 34)) (w.heap.size) #[.int .u8 k, .int .i64 n, .string s, .int .u8 k', .int .i64 n', .string s', .int .i64 nu, .int .i64 ma] 26 := by simpa only [World.size_alloc, Nat.add_assoc, Nat.reduceAdd] using (((At.new w #[.int .u8 k, .int .i64 n, .string s, .int .u8 k', .int .i64 n', .string s', .int .i64 nu, .int .i64 ma] 26).alloc (.cells #[.int .u8 k2, .int .i64 n2, .string s2] 24)).alloc (.cells #[.bool false, .bool false, .bool false] 34)).alloc (.cells #[.bool false, .bool false, .bool false] 34)
  have z2 : At ((((w.alloc (.cells #[.int .u8 k, .int .i64 n, .string s, .int .u8 k', .int .i64 n', .string s', .int .i64 nu, .int .i64 ma] 26)).alloc (.cells #[.int .u8 k2, .int .i64 n2, .string s2] 24)).alloc (.cells #[.bool false, .bool false, .bool false] 34)).alloc (.cells #[.bool false, .bool false, .bool false] 34)) (w.heap.size + 1) #[.int .u8 k2, .int .i64 n2, .string s2] 24 := by simpa only [World.size_alloc, Nat.add_assoc, Nat.reduceAdd] using ((At.new (w.alloc (.cells #[.int .u8 k, .int .i64 n, .string s, .int .u8 k', .int .i64 n', .string s', .int .i64 nu, .int .i64 ma] 26)) #[.int .u8 k2, .int .i64 n2, .string s2] 24).alloc (.cells #[.bool false, .bool false, .bool false] 34)).alloc (.cells #[.bool false, .bool false, .bool false] 34)
  have z3 : At ((((w.alloc (.cells #[.int .u8 k, .int .i64 n, .string s, .int .u8 k', .int .i64 n', .string s', .int .i64 nu, .int .i64 ma] 26)).alloc (.cells #[.int .u8 k2, .int .i64 n2, .string s2] 24)).alloc (.cells #[.bool false, .bool false, .bool false] 34)).alloc (.cells #[.bool false, .bool false, .bool false] 34)) (w.heap.size + 2) #[.bool false, .bool false, .bool false] 34 := by simpa only [World.size_alloc, Nat.add_assoc, Nat.reduceAdd] using (At.new ((w.alloc (.cells #[.int .u8 k, .int .i64 n, .string s, .int .u8 k', .int .i64 n', .string s', .int .i64 nu, .int .i64 ma] 26)).alloc (.cells #[.int .u8 k2, .int .i64 n2, .string s2] 24)) #[.bool false, .bool false, .bool false] 34).alloc (.cells #[.bool false, .bool false, .bool false] 34)
  have z4 : At ((((w.alloc (.cells #[.int .u8 k, .int .i64 n, .string s, .int .u8 k', .int .i64 n', .string s', .int .i64 nu, .int .i64 ma] 26)).alloc (.cells #[.int .u8 k2, .int .i64 n2, .string s2] 24)).alloc (.cells #[.bool false, .bool false, .bool false] 34)).alloc (.cells #[.bool false, .bool false, .bool false] 34)) (w.heap.size + 3) #[.bool false, .bool false, .bool false] 34 := by simpa only [World.size_alloc, Nat.add_assoc, Nat.reduceAdd] using At.new (((w.alloc (.cells #[.int .u8 k, .int .i64 n, .string s, .int .u8 k', .int .i64 n', .string s', .int .i64 nu, .int .i64 ma] 26)).alloc (.cells #[.int .u8 k2, .int .i64 n2, .string s2] 24)).alloc (.cells #[.bool false, .bool false, .bool false] 34)) #[.bool false, .bool false, .bool false] 34
  have BB : Below w.heap.size w ((((w.alloc (.cells #[.int .u8 k, .int .i64 n, .string s, .int .u8 k', .int .i64 n', .string s', .int .i64 nu, .int .i64 ma] 26)).alloc (.cells #[.int .u8 k2, .int .i64 n2, .string s2] 24)).alloc (.cells #[.bool false, .bool false, .bool false] 34)).alloc (.cells #[.bool false, .bool false, .bool false] 34)) := Below.alloc (Below.alloc (Below.alloc (Below.alloc (Below.refl w.heap.size w) (by (try simp only [World.size_alloc]) <;> omega) (.cells #[.int .u8 k, .int .i64 n, .string s, .int .u8 k', .int .i64 n', .string s', .int .i64 nu, .int .i64 ma] 26)) (by (try simp only [World.size_alloc]) <;> omega) (.cells #[.int .u8 k2, .int .i64 n2, .string s2] 24)) (by (try simp only [World.size_alloc]) <;> omega) (.cells #[.bool false, .bool false, .bool false] 34)) (by (try simp only [World.size_alloc]) <;> omega) (.cells #[.bool false, .bool false, .bool false] 34)
  generalize ((((w.alloc (.cells #[.int .u8 k, .int .i64 n, .string s, .int .u8 k', .int .i64 n', .string s', .int .i64 nu, .int .i64 ma] 26)).alloc (.cells #[.int .u8 k2, .int .i64 n2, .string s2] 24)).alloc (.cells #[.bool false, .bool false, .bool false] 34)).alloc (.cells #[.bool false, .bool false, .bool false] 34)) = wx at z1 z2 z3 z4 BB ⊢
  have x6 := z1.cell 6 rfl
  have x7 := z1.cell 7 rfl
  have xl := z1.lt
  have y0 := z2.cell 0 rfl
  have yl := z2.lt
  have u0 := z4.cell 0 rfl
  have uf0 := z4.free 0
  have u1 := z4.cell 1 rfl
  have uf1 := z4.free 1
  have u2 := z4.cell 2 rfl
  have uf2 := z4.free 2
  have ul := z4.lt
  have t0 := z3.cell 0 rfl
  have tf0 := z3.free 0
  have t1 := z3.cell 1 rfl
  have tf1 := z3.free 1
  have t2 := z3.cell 2 rfl
  have tf2 := z3.free 2
  have tl := z3.lt
  simp only [Nat.add_assoc, Nat.reduceAdd] at *
  by_cases h1 : 0 < nu
  ·
    by_cases h2 : k2 = 0
    ·
      have h2b : (k2 == 0) = true := by simpa using h2
      by_cases h3 : 0 < ma
      ·
        have he : (⟨false, true, false⟩ : Tri3) = ⟨b0, b1, b2⟩ := by rw [← HE.out]; simp [unZ, mayZ, h1, h2, h3]
        simp only [Tri3.mk.injEq] at he
        obtain ⟨q0, q1, q2⟩ := he
        subst q0 q1 q2
        clear HE h2
        go_wp2_with (first | (at_make; refine Stop.un ?_) | (at_builtin; refine Stop.un ?_) | (with_reducible refine Stop.conv 40 9 ?_) | (with_reducible refine Stop.conv 9 40 ?_))
        replace z3 := z3.off (p := ⟨w.heap.size + 3, 1, none⟩) (by simp) (.bool true)
        replace BB := BB.setCell (p := ⟨w.heap.size + 3, 1, none⟩) (by simp) (.bool true)
        have RQ := z3.set3 (.bool false) (.bool true) (.bool false)
        have rq0 := RQ.cell 0 rfl
        have rq1 := RQ.cell 1 rfl
        have rq2 := RQ.cell 2 rfl
        have rql := RQ.lt
        exact bodyPost_ret (v := .agg #[.bool false, .bool true, .bool false]) (by simp [results, Try.results37, go_sem, rq0, rq1, rq2]) rfl ⟨rfl, below_set3 BB _ _ _  (by omega)⟩
      ·
        have he : (⟨false, true, false⟩ : Tri3) = ⟨b0, b1, b2⟩ := by rw [← HE.out]; simp [unZ, mayZ, h1, h2, h3]
        simp only [Tri3.mk.injEq] at he
        obtain ⟨q0, q1, q2⟩ := he
        subst q0 q1 q2
        clear HE h2
        go_wp2_with (first | (at_make; refine Stop.un ?_) | (at_builtin; refine Stop.un ?_) | (with_reducible refine Stop.conv 40 9 ?_) | (with_reducible refine Stop.conv 9 40 ?_))
        replace z3 := z3.off (p := ⟨w.heap.size + 3, 1, none⟩) (by simp) (.bool true)
        replace BB := BB.setCell (p := ⟨w.heap.size + 3, 1, none⟩) (by simp) (.bool true)
        have RQ := z3.set3 (.bool false) (.bool true) (.bool false)
        have rq0 := RQ.cell 0 rfl
        have rq1 := RQ.cell 1 rfl
        have rq2 := RQ.cell 2 rfl
        have rql := RQ.lt
        exact bodyPost_ret (v := .agg #[.bool false, .bool true, .bool false]) (by simp [results, Try.results37, go_sem, rq0, rq1, rq2]) rfl ⟨rfl, below_set3 BB _ _ _  (by omega)⟩
    ·
      have h2b : (k2 == 0) = false := by simpa using h2
      by_cases h3 : 0 < ma
      ·
        have he : (⟨false, true, false⟩ : Tri3) = ⟨b0, b1, b2⟩ := by rw [← HE.out]; simp [unZ, mayZ, h1, h2, h3]
        simp only [Tri3.mk.injEq] at he
        obtain ⟨q0, q1, q2⟩ := he
        subst q0 q1 q2
        clear HE h2
        go_wp2_with (first | (at_make; refine Stop.un ?_) | (at_builtin; refine Stop.un ?_) | (with_reducible refine Stop.conv 40 9 ?_) | (with_reducible refine Stop.conv 9 40 ?_))
        replace z3 := z3.off (p := ⟨w.heap.size + 3, 1, none⟩) (by simp) (.bool true)
        replace BB := BB.setCell (p := ⟨w.heap.size + 3, 1, none⟩) (by simp) (.bool true)
        have RQ := z3.set3 (.bool false) (.bool true) (.bool false)
        have rq0 := RQ.cell 0 rfl
        have rq1 := RQ.cell 1 rfl
        have rq2 := RQ.cell 2 rfl
        have rql := RQ.lt
        exact bodyPost_ret (v := .agg #[.bool false, .bool true, .bool false]) (by simp [results, Try.results37, go_sem, rq0, rq1, rq2]) rfl ⟨rfl, below_set3 BB _ _ _  (by omega)⟩
      ·
        have he : (⟨false, true, false⟩ : Tri3) = ⟨b0, b1, b2⟩ := by rw [← HE.out]; simp [unZ, mayZ, h1, h2, h3]
        simp only [Tri3.mk.injEq] at he
        obtain ⟨q0, q1, q2⟩ := he
        subst q0 q1 q2
        clear HE h2
        go_wp2_with (first | (at_make; refine Stop.un ?_) | (at_builtin; refine Stop.un ?_) | (with_reducible refine Stop.conv 40 9 ?_) | (with_reducible refine Stop.conv 9 40 ?_))
        replace z3 := z3.off (p := ⟨w.heap.size + 3, 1, none⟩) (by simp) (.bool true)
        replace BB := BB.setCell (p := ⟨w.heap.size + 3, 1, none⟩) (by simp) (.bool true)
        have RQ := z3.set3 (.bool false) (.bool true) (.bool false)
        have rq0 := RQ.cell 0 rfl
        have rq1 := RQ.cell 1 rfl
        have rq2 := RQ.cell 2 rfl
        have rql := RQ.lt
        exact bodyPost_ret (v := .agg #[.bool false, .bool true, .bool false]) (by simp [results, Try.results37, go_sem, rq0, rq1, rq2]) rfl ⟨rfl, below_set3 BB _ _ _  (by omega)⟩
  ·
    by_cases h2 : k2 = 0
    ·
      have h2b : (k2 == 0) = true := by simpa using h2
      by_cases h3 : 0 < ma
      ·
        have he : (⟨false, true, false⟩ : Tri3) = ⟨b0, b1, b2⟩ := by rw [← HE.out]; simp [unZ, mayZ, h1, h2, h3]
        simp only [Tri3.mk.injEq] at he
        obtain ⟨q0, q1, q2⟩ := he
        subst q0 q1 q2
        clear HE h2
        go_wp2_with (first | (at_make; refine Stop.un ?_) | (at_builtin; refine Stop.un ?_) | (with_reducible refine Stop.conv 40 9 ?_) | (with_reducible refine Stop.conv 9 40 ?_))
        replace z3 := z3.off (p := ⟨w.heap.size + 3, 1, none⟩) (by simp) (.bool true)
        replace BB := BB.setCell (p := ⟨w.heap.size + 3, 1, none⟩) (by simp) (.bool true)
        have RQ := z3.set3 (.bool false) (.bool true) (.bool false)
        have rq0 := RQ.cell 0 rfl
        have rq1 := RQ.cell 1 rfl
        have rq2 := RQ.cell 2 rfl
        have rql := RQ.lt
        exact bodyPost_ret (v := .agg #[.bool false, .bool true, .bool false]) (by simp [results, Try.results37, go_sem, rq0, rq1, rq2]) rfl ⟨rfl, below_set3 BB _ _ _  (by omega)⟩
      ·
        have he : (⟨false, false, false⟩ : Tri3) = ⟨b0, b1, b2⟩ := by rw [← HE.out]; simp [unZ, mayZ, h1, h2, h3]
        simp only [Tri3.mk.injEq] at he
        obtain ⟨q0, q1, q2⟩ := he
        subst q0 q1 q2
        clear HE h2
        go_wp2_with (first | (at_make; refine Stop.un ?_) | (at_builtin; refine Stop.un ?_) | (with_reducible refine Stop.conv 40 9 ?_) | (with_reducible refine Stop.conv 9 40 ?_))
        replace z3 := z3.off (p := ⟨w.heap.size + 3, 1, none⟩) (by simp) (.bool false)
        replace BB := BB.setCell (p := ⟨w.heap.size + 3, 1, none⟩) (by simp) (.bool false)
        have RQ := z3.set3 (.bool false) (.bool false) (.bool false)
        have rq0 := RQ.cell 0 rfl
        have rq1 := RQ.cell 1 rfl
        have rq2 := RQ.cell 2 rfl
        have rql := RQ.lt
        exact bodyPost_ret (v := .agg #[.bool false, .bool false, .bool false]) (by simp [results, Try.results37, go_sem, rq0, rq1, rq2]) rfl ⟨rfl, below_set3 BB _ _ _  (by omega)⟩
    ·
      have h2b : (k2 == 0) = false := by simpa using h2
      by_cases h3 : 0 < ma
      ·
        have he : (⟨false, false, false⟩ : Tri3) = ⟨b0, b1, b2⟩ := by rw [← HE.out]; simp [unZ, mayZ, h1, h2, h3]
        simp only [Tri3.mk.injEq] at he
        obtain ⟨q0, q1, q2⟩ := he
        subst q0 q1 q2
        clear HE h2
        go_wp2_with (first | (at_make; refine Stop.un ?_) | (at_builtin; refine Stop.un ?_) | (with_reducible refine Stop.conv 40 9 ?_) | (with_reducible refine Stop.conv 9 40 ?_))
        replace z3 := z3.off (p := ⟨w.heap.size + 3, 1, none⟩) (by simp) (.bool false)
        replace BB := BB.setCell (p := ⟨w.heap.size + 3, 1, none⟩) (by simp) (.bool false)
        have RQ := z3.set3 (.bool false) (.bool false) (.bool false)
        have rq0 := RQ.cell 0 rfl
        have rq1 := RQ.cell 1 rfl
        have rq2 := RQ.cell 2 rfl
        have rql := RQ.lt
        exact bodyPost_ret (v := .agg #[.bool false, .bool false, .bool false]) (by simp [results, Try.results37, go_sem, rq0, rq1, rq2]) rfl ⟨rfl, below_set3 BB _ _ _  (by omega)⟩
      ·
        have he : (⟨false, false, false⟩ : Tri3) = ⟨b0, b1, b2⟩ := by rw [← HE.out]; simp [unZ, mayZ, h1, h2, h3]
        simp only [Tri3.mk.injEq] at he
        obtain ⟨q0, q1, q2⟩ := he
        subst q0 q1 q2
        clear HE h2
        go_wp2_with (first | (at_make; refine Stop.un ?_) | (at_builtin; refine Stop.un ?_) | (with_reducible refine Stop.conv 40 9 ?_) | (with_reducible refine Stop.conv 9 40 ?_))
        replace z3 := z3.off (p := ⟨w.heap.size + 3, 1, none⟩) (by simp) (.bool false)
        replace BB := BB.setCell (p := ⟨w.heap.size + 3, 1, none⟩) (by simp) (.bool false)
        have RQ := z3.set3 (.bool false) (.bool false) (.bool false)
        have rq0 := RQ.cell 0 rfl
        have rq1 := RQ.cell 1 rfl
        have rq2 := RQ.cell 2 rfl
        have rql := RQ.lt
        exact bodyPost_ret (v := .agg #[.bool false, .bool false, .bool false]) (by simp [results, Try.results37, go_sem, rq0, rq1, rq2]) rfl ⟨rfl, below_set3 BB _ _ _  (by omega)⟩
set_option maxHeartbeats 12000000 in
theorem requalz_any (z : Zn) (v : V) (w : World) : Calls Try.prog 17 #[z.val, v.val] w (fun e w' => e = .returned (equalZ z v).val ∧ Below w.heap.size w w') := by
  obtain ⟨⟨k, n, s⟩, ⟨k', n', s'⟩, nu, ma⟩ := z
  obtain ⟨k2, n2, s2⟩ := v
  simp only [Zn.val, V.val]
  generalize he : equalZ ⟨⟨k, n, s⟩, ⟨k', n', s'⟩, nu, ma⟩ ⟨k2, n2, s2⟩ = t
  obtain ⟨b0, b1, b2⟩ := t
  have HE := Lib.hid he
  clear he
  simp only [Tri3.val]
  have HU := Lib.hid (fun w => runknown_any ⟨⟨k, n, s⟩, ⟨k', n', s'⟩, nu, ma⟩ ⟨k2, n2, s2⟩ w)
  simp only [unZ, Zn.val, V.val, Tri3.val] at HU
  have HCc := Lib.hid (fun w => rcompare_x k2 n2 s2 k n s w)
  have HCd := Lib.hid (fun w => rcompare_x k2 n2 s2 k' n' s' w)
  have he : mayZ ⟨⟨k, n, s⟩, ⟨k', n', s'⟩, nu, ma⟩ ⟨k2, n2, s2⟩ _ _ = ⟨b0, b1, b2⟩ := HE.out
  clear HE
  simp only [mayZ, Tri3.mk.injEq] at he HU
  obtain ⟨he0, he1, he2⟩ := he
  rw [he1] at HU
  rw [Bool.decide_or, cmp_ne, cmp_ne] at he0
  generalize cmpV ⟨k2, n2, s2⟩ ⟨k, n, s⟩ = c at HCc he0 he2
  generalize cmpV ⟨k2, n2, s2⟩ ⟨k', n', s'⟩ = d at HCd he0 he2
  generalize hq1 : eqV ⟨k, n, s⟩ ⟨k2, n2, s2⟩ = q1 at he0
  generalize hq2 : eqV ⟨k', n', s'⟩ ⟨k2, n2, s2⟩ = q2 at he0
  have HQ1 := Lib.hid hq1
  have HQ2 := Lib.hid hq2
  clear hq1 hq2
  have HE := Lib.hid (And.intro he0 he2)
  clear he0 he1 he2
  go_enter Try.func17, Try.ntmps17
  go_wp2_with (first | (at_make; refine Stop.un ?_) | (at_builtin; refine Stop.un ?_) | (with_reducible refine Stop.conv 40 9 ?_) | (with_reducible refine Stop.conv 9 40 ?_))
  refine (HU.out _).mono ?_
  rintro e w1 ⟨rfl, b1x⟩
  have z1 : At (((w.alloc (.cells #[.int .u8 k, .int .i64 n, .string s, .int .u8 k', .int .i64 n', .string s', .int .i64 nu, .int .i64 ma] 26)).alloc (.cells #[.int .u8 k2, .int .i64 n2, .string s2] 24)).alloc (.cells #[.bool false, .bool false, .bool false] 34)) (w.heap.size) #[.int .u8 k, .int .i64 n, .string s, .int .u8 k', .int .i64 n', .string s', .int .i64 nu, .int .i64 ma] 26 := by simpa only [World.size_alloc, Nat.add_assoc, Nat.reduceAdd] using ((At.new w #[.int .u8 k, .int .i64 n, .string s, .int .u8 k', .int .i64 n', .string s', .int .i64 nu, .int .i64 ma] 26).alloc (.cells #[.int .u8 k2, .int .i64 n2, .string s2] 24)).alloc (.cells #[.bool false, .bool false, .bool false] 34)
  have z2 : At (((w.alloc (.cells #[.int .u8 k, .int .i64 n, .string s, .int .u8 k', .int .i64 n', .string s', .int .i64 nu, .int .i64 ma] 26)).alloc (.cells #[.int .u8 k2, .int .i64 n2, .string s2] 24)).alloc (.cells #[.bool false, .bool false, .bool false] 34)) (w.heap.size + 1) #[.int .u8 k2, .int .i64 n2, .string s2] 24 := by simpa only [World.size_alloc, Nat.add_assoc, Nat.reduceAdd] using (At.new (w.alloc (.cells #[.int .u8 k, .int .i64 n, .string s, .int .u8 k', .int .i64 n', .string s', .int .i64 nu, .int .i64 ma] 26)) #[.int .u8 k2, .int .i64 n2, .string s2] 24).alloc (.cells #[.bool false, .bool false, .bool false] 34)
  have z3 : At (((w.alloc (.cells #[.int .u8 k, .int .i64 n, .string s, .int .u8 k', .int .i64 n', .string s', .int .i64 nu, .int .i64 ma] 26)).alloc (.cells #[.int .u8 k2, .int .i64 n2, .string s2] 24)).alloc (.cells #[.bool false, .bool false, .bool false] 34)) (w.heap.size + 2) #[.bool false, .bool false, .bool false] 34 := by simpa only [World.size_alloc, Nat.add_assoc, Nat.reduceAdd] using At.new ((w.alloc (.cells #[.int .u8 k, .int .i64 n, .string s, .int .u8 k', .int .i64 n', .string s', .int .i64 nu, .int .i64 ma] 26)).alloc (.cells #[.int .u8 k2, .int .i64 n2, .string s2] 24)) #[.bool false, .bool false, .bool false] 34
  have BB : Below w.heap.size w (((w.alloc (.cells #[.int .u8 k, .int .i64 n, .string s, .int .u8 k', .int .i64 n', .string s', .int .i64 nu, .int .i64 ma] 26)).alloc (.cells #[.int .u8 k2, .int .i64 n2, .string s2] 24)).alloc (.cells #[.bool false, .bool false, .bool false] 34)) := Below.alloc (Below.alloc (Below.alloc (Below.refl w.heap.size w) (by (try simp only [World.size_alloc]) <;> omega) (.cells #[.int .u8 k, .int .i64 n, .string s, .int .u8 k', .int .i64 n', .string s', .int .i64 nu, .int .i64 ma] 26)) (by (try simp only [World.size_alloc]) <;> omega) (.cells #[.int .u8 k2, .int .i64 n2, .string s2] 24)) (by (try simp only [World.size_alloc]) <;> omega) (.cells #[.bool false, .bool false, .bool false] 34)
  replace z1 := At.mono z1 b1x
  replace z2 := At.mono z2 b1x
  replace z3 := At.mono z3 b1x
  replace BB := Below.next BB b1x
  clear b1x
  have z4 := At.new w1 #[.bool false, .bool b1, .bool false] 34
  have bq := (Below.refl w1.heap.size w1).alloc (Nat.le_refl _) (.cells #[.bool false, .bool b1, .bool false] 34)
  have hg := z3.lt
  replace z1 := At.mono z1 bq
  replace z2 := At.mono z2 bq
  replace z3 := At.mono z3 bq
  replace BB := Below.next BB bq
  clear bq
  go_upto_region 2 with fail
  generalize w1.alloc (.cells #[.bool false, .bool b1, .bool false] 34) = wx at z1 z2 z3 z4 BB ⊢
  generalize w1.heap.size = g at z4 hg ⊢
  have x0 := z1.cell 0 rfl
  have x1 := z1.cell 1 rfl
  have x2 := z1.cell 2 rfl
  have x3 := z1.cell 3 rfl
  have x4 := z1.cell 4 rfl
  have x5 := z1.cell 5 rfl
  have x6 := z1.cell 6 rfl
  have x7 := z1.cell 7 rfl
  have xl := z1.lt
  have y0 := z2.cell 0 rfl
  have y1 := z2.cell 1 rfl
  have y2 := z2.cell 2 rfl
  have yl := z2.lt
  have u0 := z4.cell 0 rfl
  have uf0 := z4.free 0
  have u1 := z4.cell 1 rfl
  have uf1 := z4.free 1
  have u2 := z4.cell 2 rfl
  have uf2 := z4.free 2
  have ul := z4.lt
  have t0 := z3.cell 0 rfl
  have tf0 := z3.free 0
  have t1 := z3.cell 1 rfl
  have tf1 := z3.free 1
  have t2 := z3.cell 2 rfl
  have tf2 := z3.free 2
  have tl := z3.lt
  try simp only [Nat.add_assoc, Nat.reduceAdd] at x0 x1 x2 x3 x4 x5 x6 x7 y0 y1 y2
  by_cases h4 : nu < ma
  ·
    by_cases h2 : k2 = 0
    ·
      have h2n : (k2 != 0) = false := by simpa using h2
      have he := HE.out
      rw [decide_eq_false (by simp [h2] <;> omega)] at he
      simp only [Bool.false_and] at he
      obtain ⟨q0, q2⟩ := he
      subst q0 q2
      clear HE h2
      go_wp2_with (first | (at_make; refine Stop.un ?_) | (at_builtin; refine Stop.un ?_) | (with_reducible refine Stop.conv 40 9 ?_) | (with_reducible refine Stop.conv 9 40 ?_))
      have RQ := z3.set3 (.bool false) (.bool b1) (.bool false)
      have rq0 := RQ.cell 0 rfl
      have rq1 := RQ.cell 1 rfl
      have rq2 := RQ.cell 2 rfl
      have rql := RQ.lt
      exact bodyPost_ret (v := .agg #[.bool false, .bool b1, .bool false]) (by simp [results, Try.results17, go_sem, rq0, rq1, rq2]) rfl ⟨rfl, below_set3 BB _ _ _  (by omega)⟩
    ·
      have h2n : (k2 != 0) = true := by simpa using h2
      have he := HE.out
      rw [decide_eq_true (And.intro h4 h2)] at he
      simp only [Bool.true_and] at he
      obtain ⟨q0, q2⟩ := he
      clear HE
      go_wp2_with (first | (at_make; refine Stop.un ?_) | (at_builtin; refine Stop.un ?_) | (with_reducible refine Stop.conv 40 9 ?_) | (with_reducible refine Stop.conv 9 40 ?_) | (with_reducible refine Stop.eql 24 ?_) | (with_reducible refine Stop.neq 24 ?_))
      refine (HCc.out _).mono ?_
      rintro e wq ⟨rfl, bq⟩
      clear x0 x1 x2 x3 x4 x5 x6 x7 y0 y1 y2 u0 uf0 u1 uf1 u2 uf2 t0 tf0 t1 tf1 t2 tf2 xl yl ul tl
      replace z1 := At.mono z1 bq
      replace z2 := At.mono z2 bq
      replace z3 := At.mono z3 bq
      replace z4 := At.mono z4 bq
      replace BB := Below.next BB bq
      clear bq
      have x0 := z1.cell 0 rfl
      have x1 := z1.cell 1 rfl
      have x2 := z1.cell 2 rfl
      have x3 := z1.cell 3 rfl
      have x4 := z1.cell 4 rfl
      have x5 := z1.cell 5 rfl
      have x6 := z1.cell 6 rfl
      have x7 := z1.cell 7 rfl
      have xl := z1.lt
      have y0 := z2.cell 0 rfl
      have y1 := z2.cell 1 rfl
      have y2 := z2.cell 2 rfl
      have yl := z2.lt
      have u0 := z4.cell 0 rfl
      have uf0 := z4.free 0
      have u1 := z4.cell 1 rfl
      have uf1 := z4.free 1
      have u2 := z4.cell 2 rfl
      have uf2 := z4.free 2
      have ul := z4.lt
      have t0 := z3.cell 0 rfl
      have tf0 := z3.free 0
      have t1 := z3.cell 1 rfl
      have tf1 := z3.free 1
      have t2 := z3.cell 2 rfl
      have tf2 := z3.free 2
      have tl := z3.lt
      try simp only [Nat.add_assoc, Nat.reduceAdd] at x0 x1 x2 x3 x4 x5 x6 x7 y0 y1 y2
      by_cases hc : 0 ≤ c
      ·
        go_wp2_with (first | (at_make; refine Stop.un ?_) | (at_builtin; refine Stop.un ?_) | (with_reducible refine Stop.conv 40 9 ?_) | (with_reducible refine Stop.conv 9 40 ?_) | (with_reducible refine Stop.eql 24 ?_) | (with_reducible refine Stop.neq 24 ?_))
        refine (HCd.out _).mono ?_
        rintro e wq ⟨rfl, bq⟩
        clear x0 x1 x2 x3 x4 x5 x6 x7 y0 y1 y2 u0 uf0 u1 uf1 u2 uf2 t0 tf0 t1 tf1 t2 tf2 xl yl ul tl
        replace z1 := At.mono z1 bq
        replace z2 := At.mono z2 bq
        replace z3 := At.mono z3 bq
        replace z4 := At.mono z4 bq
        replace BB := Below.next BB bq
        clear bq
        have x0 := z1.cell 0 rfl
        have x1 := z1.cell 1 rfl
        have x2 := z1.cell 2 rfl
        have x3 := z1.cell 3 rfl
        have x4 := z1.cell 4 rfl
        have x5 := z1.cell 5 rfl
        have x6 := z1.cell 6 rfl
        have x7 := z1.cell 7 rfl
        have xl := z1.lt
        have y0 := z2.cell 0 rfl
        have y1 := z2.cell 1 rfl
        have y2 := z2.cell 2 rfl
        have yl := z2.lt
        have u0 := z4.cell 0 rfl
        have uf0 := z4.free 0
        have u1 := z4.cell 1 rfl
        have uf1 := z4.free 1
        have u2 := z4.cell 2 rfl
        have uf2 := z4.free 2
        have ul := z4.lt
        have t0 := z3.cell 0 rfl
        have tf0 := z3.free 0
        have t1 := z3.cell 1 rfl
        have tf1 := z3.free 1
        have t2 := z3.cell 2 rfl
        have tf2 := z3.free 2
        have tl := z3.lt
        try simp only [Nat.add_assoc, Nat.reduceAdd] at x0 x1 x2 x3 x4 x5 x6 x7 y0 y1 y2
        have e2 : b2 = (decide (d ≤ 0)) := by rw [← q2]; simp [hc]
        clear q2
        subst e2
        go_wp2_with (first | (at_make; refine Stop.un ?_) | (at_builtin; refine Stop.un ?_) | (with_reducible refine Stop.conv 40 9 ?_) | (with_reducible refine Stop.conv 9 40 ?_) | (with_reducible refine Stop.eql 24 ?_) | (with_reducible refine Stop.neq 24 ?_))
        refine Stop.mk (wpList_as _ rfl (exec_neV ⟨_, _, _⟩ ⟨_, _, _⟩ rfl rfl _) ?_)
        rw [HQ1.out]
        cases q1 with
        | false =>
          have e0 : b0 = true := by rw [← q0]; rfl
          clear q0
          subst e0
          go_wp2_with (first | (at_make; refine Stop.un ?_) | (at_builtin; refine Stop.un ?_) | (with_reducible refine Stop.conv 40 9 ?_) | (with_reducible refine Stop.conv 9 40 ?_) | (with_reducible refine Stop.eql 24 ?_) | (with_reducible refine Stop.neq 24 ?_))
          replace z3 := z3.off (p := ⟨g, 2, none⟩) (by simp <;> omega) (.bool (decide (d ≤ 0)))
          replace BB := BB.setCell (p := ⟨g, 2, none⟩) (by simp <;> omega) (.bool (decide (d ≤ 0)))
          replace z3 := z3.off (p := ⟨g, 0, none⟩) (by simp <;> omega) (.bool true)
          replace BB := BB.setCell (p := ⟨g, 0, none⟩) (by simp <;> omega) (.bool true)
          have RQ := z3.set3 (.bool true) (.bool b1) (.bool (decide (d ≤ 0)))
          have rq0 := RQ.cell 0 rfl
          have rq1 := RQ.cell 1 rfl
          have rq2 := RQ.cell 2 rfl
          have rql := RQ.lt
          exact bodyPost_ret (v := .agg #[.bool true, .bool b1, .bool (decide (d ≤ 0))]) (by simp [results, Try.results17, go_sem, rq0, rq1, rq2]) rfl ⟨rfl, below_set3 BB _ _ _  (by omega)⟩
        | true =>
          go_wp2_with (first | (at_make; refine Stop.un ?_) | (at_builtin; refine Stop.un ?_) | (with_reducible refine Stop.conv 40 9 ?_) | (with_reducible refine Stop.conv 9 40 ?_) | (with_reducible refine Stop.eql 24 ?_) | (with_reducible refine Stop.neq 24 ?_))
          refine Stop.mk (wpList_as _ rfl (exec_neV ⟨_, _, _⟩ ⟨_, _, _⟩ rfl rfl _) ?_)
          rw [HQ2.out]
          have e0 : b0 = (!q2) := by rw [← q0]; rfl
          clear q0
          subst e0
          go_wp2_with (first | (at_make; refine Stop.un ?_) | (at_builtin; refine Stop.un ?_) | (with_reducible refine Stop.conv 40 9 ?_) | (with_reducible refine Stop.conv 9 40 ?_) | (with_reducible refine Stop.eql 24 ?_) | (with_reducible refine Stop.neq 24 ?_))
          replace z3 := z3.off (p := ⟨g, 2, none⟩) (by simp <;> omega) (.bool (decide (d ≤ 0)))
          replace BB := BB.setCell (p := ⟨g, 2, none⟩) (by simp <;> omega) (.bool (decide (d ≤ 0)))
          replace z3 := z3.off (p := ⟨g, 0, none⟩) (by simp <;> omega) (.bool (!q2))
          replace BB := BB.setCell (p := ⟨g, 0, none⟩) (by simp <;> omega) (.bool (!q2))
          have RQ := z3.set3 (.bool (!q2)) (.bool b1) (.bool (decide (d ≤ 0)))
          have rq0 := RQ.cell 0 rfl
          have rq1 := RQ.cell 1 rfl
          have rq2 := RQ.cell 2 rfl
          have rql := RQ.lt
          exact bodyPost_ret (v := .agg #[.bool (!q2), .bool b1, .bool (decide (d ≤ 0))]) (by simp [results, Try.results17, go_sem, rq0, rq1, rq2]) rfl ⟨rfl, below_set3 BB _ _ _  (by omega)⟩
      ·
        have e2 : b2 = false := by rw [← q2]; simp [hc]
        clear q2
        subst e2
        go_wp2_with (first | (at_make; refine Stop.un ?_) | (at_builtin; refine Stop.un ?_) | (with_reducible refine Stop.conv 40 9 ?_) | (with_reducible refine Stop.conv 9 40 ?_) | (with_reducible refine Stop.eql 24 ?_) | (with_reducible refine Stop.neq 24 ?_))
        refine Stop.mk (wpList_as _ rfl (exec_neV ⟨_, _, _⟩ ⟨_, _, _⟩ rfl rfl _) ?_)
        rw [HQ1.out]
        cases q1 with
        | false =>
          have e0 : b0 = true := by rw [← q0]; rfl
          clear q0
          subst e0
          go_wp2_with (first | (at_make; refine Stop.un ?_) | (at_builtin; refine Stop.un ?_) | (with_reducible refine Stop.conv 40 9 ?_) | (with_reducible refine Stop.conv 9 40 ?_) | (with_reducible refine Stop.eql 24 ?_) | (with_reducible refine Stop.neq 24 ?_))
          replace z3 := z3.off (p := ⟨g, 2, none⟩) (by simp <;> omega) (.bool false)
          replace BB := BB.setCell (p := ⟨g, 2, none⟩) (by simp <;> omega) (.bool false)
          replace z3 := z3.off (p := ⟨g, 0, none⟩) (by simp <;> omega) (.bool true)
          replace BB := BB.setCell (p := ⟨g, 0, none⟩) (by simp <;> omega) (.bool true)
          have RQ := z3.set3 (.bool true) (.bool b1) (.bool false)
          have rq0 := RQ.cell 0 rfl
          have rq1 := RQ.cell 1 rfl
          have rq2 := RQ.cell 2 rfl
          have rql := RQ.lt
          exact bodyPost_ret (v := .agg #[.bool true, .bool b1, .bool false]) (by simp [results, Try.results17, go_sem, rq0, rq1, rq2]) rfl ⟨rfl, below_set3 BB _ _ _  (by omega)⟩
        | true =>
          go_wp2_with (first | (at_make; refine Stop.un ?_) | (at_builtin; refine Stop.un ?_) | (with_reducible refine Stop.conv 40 9 ?_) | (with_reducible refine Stop.conv 9 40 ?_) | (with_reducible refine Stop.eql 24 ?_) | (with_reducible refine Stop.neq 24 ?_))
          refine Stop.mk (wpList_as _ rfl (exec_neV ⟨_, _, _⟩ ⟨_, _, _⟩ rfl rfl _) ?_)
          rw [HQ2.out]
          have e0 : b0 = (!q2) := by rw [← q0]; rfl
          clear q0
          subst e0
          go_wp2_with (first | (at_make; refine Stop.un ?_) | (at_builtin; refine Stop.un ?_) | (with_reducible refine Stop.conv 40 9 ?_) | (with_reducible refine Stop.conv 9 40 ?_) | (with_reducible refine Stop.eql 24 ?_) | (with_reducible refine Stop.neq 24 ?_))
          replace z3 := z3.off (p := ⟨g, 2, none⟩) (by simp <;> omega) (.bool false)
          replace BB := BB.setCell (p := ⟨g, 2, none⟩) (by simp <;> omega) (.bool false)
          replace z3 := z3.off (p := ⟨g, 0, none⟩) (by simp <;> omega) (.bool (!q2))
          replace BB := BB.setCell (p := ⟨g, 0, none⟩) (by simp <;> omega) (.bool (!q2))
          have RQ := z3.set3 (.bool (!q2)) (.bool b1) (.bool false)
          have rq0 := RQ.cell 0 rfl
          have rq1 := RQ.cell 1 rfl
          have rq2 := RQ.cell 2 rfl
          have rql := RQ.lt
          exact bodyPost_ret (v := .agg #[.bool (!q2), .bool b1, .bool false]) (by simp [results, Try.results17, go_sem, rq0, rq1, rq2]) rfl ⟨rfl, below_set3 BB _ _ _  (by omega)⟩
  ·
    by_cases h2 : k2 = 0
    ·
      have h2n : (k2 != 0) = false := by simpa using h2
      have he := HE.out
      rw [decide_eq_false (by simp [h2] <;> omega)] at he
      simp only [Bool.false_and] at he
      obtain ⟨q0, q2⟩ := he
      subst q0 q2
      clear HE h2
      go_wp2_with (first | (at_make; refine Stop.un ?_) | (at_builtin; refine Stop.un ?_) | (with_reducible refine Stop.conv 40 9 ?_) | (with_reducible refine Stop.conv 9 40 ?_))
      have RQ := z3.set3 (.bool false) (.bool b1) (.bool false)
      have rq0 := RQ.cell 0 rfl
      have rq1 := RQ.cell 1 rfl
      have rq2 := RQ.cell 2 rfl
      have rql := RQ.lt
      exact bodyPost_ret (v := .agg #[.bool false, .bool b1, .bool false]) (by simp [results, Try.results17, go_sem, rq0, rq1, rq2]) rfl ⟨rfl, below_set3 BB _ _ _  (by omega)⟩
    ·
      have h2n : (k2 != 0) = true := by simpa using h2
      have he := HE.out
      rw [decide_eq_false (by simp [h2] <;> omega)] at he
      simp only [Bool.false_and] at he
      obtain ⟨q0, q2⟩ := he
      subst q0 q2
      clear HE h2
      go_wp2_with (first | (at_make; refine Stop.un ?_) | (at_builtin; refine Stop.un ?_) | (with_reducible refine Stop.conv 40 9 ?_) | (with_reducible refine Stop.conv 9 40 ?_))
      have RQ := z3.set3 (.bool false) (.bool b1) (.bool false)
      have rq0 := RQ.cell 0 rfl
      have rq1 := RQ.cell 1 rfl
      have rq2 := RQ.cell 2 rfl
      have rql := RQ.lt
      exact bodyPost_ret (v := .agg #[.bool false, .bool b1, .bool false]) (by simp [results, Try.results17, go_sem, rq0, rq1, rq2]) rfl ⟨rfl, below_set3 BB _ _ _  (by omega)⟩
set_option maxHeartbeats 12000000 in
theorem rlessz_any (z : Zn) (v : V) (w : World) : Calls Try.prog 19 #[z.val, v.val] w (fun e w' => e = .returned (lessZ z v).val ∧ Below w.heap.size w w') := by
  obtain ⟨⟨k, n, s⟩, ⟨k', n', s'⟩, nu, ma⟩ := z
  obtain ⟨k2, n2, s2⟩ := v
  simp only [Zn.val, V.val]
  generalize he : lessZ ⟨⟨k, n, s⟩, ⟨k', n', s'⟩, nu, ma⟩ ⟨k2, n2, s2⟩ = t
  obtain ⟨b0, b1, b2⟩ := t
  have HE := Lib.hid he
  clear he
  simp only [Tri3.val]
  have HU := Lib.hid (fun w => runknown_any ⟨⟨k, n, s⟩, ⟨k', n', s'⟩, nu, ma⟩ ⟨k2, n2, s2⟩ w)
  simp only [unZ, Zn.val, V.val, Tri3.val] at HU
  have HCc := Lib.hid (fun w => rcompare_x k n s k2 n2 s2 w)
  have HCd := Lib.hid (fun w => rcompare_x k' n' s' k2 n2 s2 w)
  have he : mayZ ⟨⟨k, n, s⟩, ⟨k', n', s'⟩, nu, ma⟩ ⟨k2, n2, s2⟩ _ _ = ⟨b0, b1, b2⟩ := HE.out
  clear HE
  simp only [mayZ, Tri3.mk.injEq] at he HU
  obtain ⟨he0, he1, he2⟩ := he
  rw [he1] at HU
  generalize cmpV ⟨k, n, s⟩ ⟨k2, n2, s2⟩ = c at HCc he0 he2
  generalize cmpV ⟨k', n', s'⟩ ⟨k2, n2, s2⟩ = d at HCd he0 he2
  have HE := Lib.hid (And.intro he0 he2)
  clear he0 he1 he2
  go_enter Try.func19, Try.ntmps19
  go_wp2_with (first | (at_make; refine Stop.un ?_) | (at_builtin; refine Stop.un ?_) | (with_reducible refine Stop.conv 40 9 ?_) | (with_reducible refine Stop.conv 9 40 ?_))
  refine (HU.out _).mono ?_
  rintro e w1 ⟨rfl, b1x⟩
  have z1 : At (((w.alloc (.cells #[.int .u8 k, .int .i64 n, .string s, .int .u8 k', .int .i64 n', .string s', .int .i64 nu, .int .i64 ma] 26)).alloc (.cells #[.int .u8 k2, .int .i64 n2, .string s2] 24)).alloc (.cells #[.bool false, .bool false, .bool false] 34)) (w.heap.size) #[.int .u8 k, .int .i64 n, .string s, .int .u8 k', .int .i64 n', .string s', .int .i64 nu, .int .i64 ma] 26 := by simpa only [World.size_alloc, Nat.add_assoc, Nat.reduceAdd] using ((At.new w #[.int .u8 k, .int .i64 n, .string s, .int .u8 k', .int .i64 n', .string s', .int .i64 nu, .int .i64 ma] 26).alloc (.cells #[.int .u8 k2, .int .i64 n2, .string s2] 24)).alloc (.cells #[.bool false, .bool false, .bool false] 34)
  have z2 : At (((w.alloc (.cells #[.int .u8 k, .int .i64 n, .string s, .int .u8 k', .int .i64 n', .string s', .int .i64 nu, .int .i64 ma] 26)).alloc (.cells #[.int .u8 k2, .int .i64 n2, .string s2] 24)).alloc (.cells #[.bool false, .bool false, .bool false] 34)) (w.heap.size + 1) #[.int .u8 k2, .int .i64 n2, .string s2] 24 := by simpa only [World.size_alloc, Nat.add_assoc, Nat.reduceAdd] using (At.new (w.alloc (.cells #[.int .u8 k, .int .i64 n, .string s, .int .u8 k', .int .i64 n', .string s', .int .i64 nu, .int .i64 ma] 26)) #[.int .u8 k2, .int .i64 n2, .string s2] 24).alloc (.cells #[.bool false, .bool false, .bool false] 34)
  have z3 : At (((w.alloc (.cells #[.int .u8 k, .int .i64 n, .string s, .int .u8 k', .int .i64 n', .string s', .int .i64 nu, .int .i64 ma] 26)).alloc (.cells #[.int .u8 k2, .int .i64 n2, .string s2] 24)).alloc (.cells #[.bool false, .bool false, .bool false] 34)) (w.heap.size + 2) #[.bool false, .bool false, .bool false] 34 := by simpa only [World.size_alloc, Nat.add_assoc, Nat.reduceAdd] using At.new ((w.alloc (.cells #[.int .u8 k, .int .i64 n, .string s, .int .u8 k', .int .i64 n', .string s', .int .i64 nu, .int .i64 ma] 26)).alloc (.cells #[.int .u8 k2, .int .i64 n2, .string s2] 24)) #[.bool false, .bool false, .bool false] 34
  have BB : Below w.heap.size w (((w.alloc (.cells #[.int .u8 k, .int .i64 n, .string s, .int .u8 k', .int .i64 n', .string s', .int .i64 nu, .int .i64 ma] 26)).alloc (.cells #[.int .u8 k2, .int .i64 n2, .string s2] 24)).alloc (.cells #[.bool false, .bool false, .bool false] 34)) := Below.alloc (Below.alloc (Below.alloc (Below.refl w.heap.size w) (by (try simp only [World.size_alloc]) <;> omega) (.cells #[.int .u8 k, .int .i64 n, .string s, .int .u8 k', .int .i64 n', .string s', .int .i64 nu, .int .i64 ma] 26)) (by (try simp only [World.size_alloc]) <;> omega) (.cells #[.int .u8 k2, .int .i64 n2, .string s2] 24)) (by (try simp only [World.size_alloc]) <;> omega) (.cells #[.bool false, .bool false, .bool false] 34)
  replace z1 := At.mono z1 b1x
  replace z2 := At.mono z2 b1x
  replace z3 := At.mono z3 b1x
  replace BB := Below.next BB b1x
  clear b1x
  have z4 := At.new w1 #[.bool false, .bool b1, .bool false] 34
  have bq := (Below.refl w1.heap.size w1).alloc (Nat.le_refl _) (.cells #[.bool false, .bool b1, .bool false] 34)
  have hg := z3.lt
  replace z1 := At.mono z1 bq
  replace z2 := At.mono z2 bq
  replace z3 := At.mono z3 bq
  replace BB := Below.next BB bq
  clear bq
  go_upto_region 2 with fail
  generalize w1.alloc (.cells #[.bool false, .bool b1, .bool false] 34) = wx at z1 z2 z3 z4 BB ⊢
  generalize w1.heap.size = g at z4 hg ⊢
  have x0 := z1.cell 0 rfl
  have x1 := z1.cell 1 rfl
  have x2 := z1.cell 2 rfl
  have x3 := z1.cell 3 rfl
  have x4 := z1.cell 4 rfl
  have x5 := z1.cell 5 rfl
  have x6 := z1.cell 6 rfl
  have x7 := z1.cell 7 rfl
  have xl := z1.lt
  have y0 := z2.cell 0 rfl
  have y1 := z2.cell 1 rfl
  have y2 := z2.cell 2 rfl
  have yl := z2.lt
  have u0 := z4.cell 0 rfl
  have uf0 := z4.free 0
  have u1 := z4.cell 1 rfl
  have uf1 := z4.free 1
  have u2 := z4.cell 2 rfl
  have uf2 := z4.free 2
  have ul := z4.lt
  have t0 := z3.cell 0 rfl
  have tf0 := z3.free 0
  have t1 := z3.cell 1 rfl
  have tf1 := z3.free 1
  have t2 := z3.cell 2 rfl
  have tf2 := z3.free 2
  have tl := z3.lt
  try simp only [Nat.add_assoc, Nat.reduceAdd] at x0 x1 x2 x3 x4 x5 x6 x7 y0 y1 y2
  by_cases h4 : nu < ma
  ·
    by_cases h2 : k2 = 0
    ·
      have h2n : (k2 != 0) = false := by simpa using h2
      have he := HE.out
      rw [decide_eq_false (by simp [h2] <;> omega)] at he
      simp only [Bool.false_and] at he
      obtain ⟨q0, q2⟩ := he
      subst q0 q2
      clear HE h2
      go_wp2_with (first | (at_make; refine Stop.un ?_) | (at_builtin; refine Stop.un ?_) | (with_reducible refine Stop.conv 40 9 ?_) | (with_reducible refine Stop.conv 9 40 ?_))
      have RQ := z3.set3 (.bool false) (.bool b1) (.bool false)
      have rq0 := RQ.cell 0 rfl
      have rq1 := RQ.cell 1 rfl
      have rq2 := RQ.cell 2 rfl
      have rql := RQ.lt
      exact bodyPost_ret (v := .agg #[.bool false, .bool b1, .bool false]) (by simp [results, Try.results19, go_sem, rq0, rq1, rq2]) rfl ⟨rfl, below_set3 BB _ _ _  (by omega)⟩
    ·
      have h2n : (k2 != 0) = true := by simpa using h2
      have he := HE.out
      rw [decide_eq_true (And.intro h4 h2)] at he
      simp only [Bool.true_and] at he
      obtain ⟨q0, q2⟩ := he
      clear HE
      go_wp2_with (first | (at_make; refine Stop.un ?_) | (at_builtin; refine Stop.un ?_) | (with_reducible refine Stop.conv 40 9 ?_) | (with_reducible refine Stop.conv 9 40 ?_) | (with_reducible refine Stop.eql 24 ?_) | (with_reducible refine Stop.neq 24 ?_))
      refine (HCc.out _).mono ?_
      rintro e wq ⟨rfl, bq⟩
      clear x0 x1 x2 x3 x4 x5 x6 x7 y0 y1 y2 u0 uf0 u1 uf1 u2 uf2 t0 tf0 t1 tf1 t2 tf2 xl yl ul tl
      replace z1 := At.mono z1 bq
      replace z2 := At.mono z2 bq
      replace z3 := At.mono z3 bq
      replace z4 := At.mono z4 bq
      replace BB := Below.next BB bq
      clear bq
      have x0 := z1.cell 0 rfl
      have x1 := z1.cell 1 rfl
      have x2 := z1.cell 2 rfl
      have x3 := z1.cell 3 rfl
      have x4 := z1.cell 4 rfl
      have x5 := z1.cell 5 rfl
      have x6 := z1.cell 6 rfl
      have x7 := z1.cell 7 rfl
      have xl := z1.lt
      have y0 := z2.cell 0 rfl
      have y1 := z2.cell 1 rfl
      have y2 := z2.cell 2 rfl
      have yl := z2.lt
      have u0 := z4.cell 0 rfl
      have uf0 := z4.free 0
      have u1 := z4.cell 1 rfl
      have uf1 := z4.free 1
      have u2 := z4.cell 2 rfl
      have uf2 := z4.free 2
      have ul := z4.lt
      have t0 := z3.cell 0 rfl
      have tf0 := z3.free 0
      have t1 := z3.cell 1 rfl
      have tf1 := z3.free 1
      have t2 := z3.cell 2 rfl
      have tf2 := z3.free 2
      have tl := z3.lt
      try simp only [Nat.add_assoc, Nat.reduceAdd] at x0 x1 x2 x3 x4 x5 x6 x7 y0 y1 y2
      subst q0 q2
      go_wp2_with (first | (at_make; refine Stop.un ?_) | (at_builtin; refine Stop.un ?_) | (with_reducible refine Stop.conv 40 9 ?_) | (with_reducible refine Stop.conv 9 40 ?_) | (with_reducible refine Stop.eql 24 ?_) | (with_reducible refine Stop.neq 24 ?_))
      clear x0 x1 x2 x3 x4 x5 x6 x7 y0 y1 y2 u0 uf0 u1 uf1 u2 uf2 t0 tf0 t1 tf1 t2 tf2 xl yl ul tl
      replace z1 := z1.off (p := ⟨g, 2, none⟩) (by simp <;> omega) (.bool (decide (c < 0)))
      replace z2 := z2.off (p := ⟨g, 2, none⟩) (by simp <;> omega) (.bool (decide (c < 0)))
      replace z3 := z3.off (p := ⟨g, 2, none⟩) (by simp <;> omega) (.bool (decide (c < 0)))
      replace BB := BB.setCell (p := ⟨g, 2, none⟩) (by simp <;> omega) (.bool (decide (c < 0)))
      replace z4 : At _ _ #[.bool false, .bool b1, .bool (decide (c < 0))] _ := z4.set 2 (.bool (decide (c < 0)))
      refine (HCd.out _).mono ?_
      rintro e wq ⟨rfl, bq⟩
      replace z1 := At.mono z1 bq
      replace z2 := At.mono z2 bq
      replace z3 := At.mono z3 bq
      replace z4 := At.mono z4 bq
      replace BB := Below.next BB bq
      clear bq
      have x0 := z1.cell 0 rfl
      have x1 := z1.cell 1 rfl
      have x2 := z1.cell 2 rfl
      have x3 := z1.cell 3 rfl
      have x4 := z1.cell 4 rfl
      have x5 := z1.cell 5 rfl
      have x6 := z1.cell 6 rfl
      have x7 := z1.cell 7 rfl
      have xl := z1.lt
      have y0 := z2.cell 0 rfl
      have y1 := z2.cell 1 rfl
      have y2 := z2.cell 2 rfl
      have yl := z2.lt
      have u0 := z4.cell 0 rfl
      have uf0 := z4.free 0
      have u1 := z4.cell 1 rfl
      have uf1 := z4.free 1
      have u2 := z4.cell 2 rfl
      have uf2 := z4.free 2
      have ul := z4.lt
      have t0 := z3.cell 0 rfl
      have tf0 := z3.free 0
      have t1 := z3.cell 1 rfl
      have tf1 := z3.free 1
      have t2 := z3.cell 2 rfl
      have tf2 := z3.free 2
      have tl := z3.lt
      try simp only [Nat.add_assoc, Nat.reduceAdd] at x0 x1 x2 x3 x4 x5 x6 x7 y0 y1 y2
      go_wp2_with (first | (at_make; refine Stop.un ?_) | (at_builtin; refine Stop.un ?_) | (with_reducible refine Stop.conv 40 9 ?_) | (with_reducible refine Stop.conv 9 40 ?_) | (with_reducible refine Stop.eql 24 ?_) | (with_reducible refine Stop.neq 24 ?_))
      replace z3 := z3.off (p := ⟨g, 0, none⟩) (by simp <;> omega) (.bool (decide (0 ≤ d)))
      replace BB := BB.setCell (p := ⟨g, 0, none⟩) (by simp <;> omega) (.bool (decide (0 ≤ d)))
      have RQ := z3.set3 (.bool (decide (0 ≤ d))) (.bool b1) (.bool (decide (c < 0)))
      have rq0 := RQ.cell 0 rfl
      have rq1 := RQ.cell 1 rfl
      have rq2 := RQ.cell 2 rfl
      have rql := RQ.lt
      exact bodyPost_ret (v := .agg #[.bool (decide (0 ≤ d)), .bool b1, .bool (decide (c < 0))]) (by simp [results, Try.results19, go_sem, rq0, rq1, rq2]) rfl ⟨rfl, below_set3 BB _ _ _  (by omega)⟩
  ·
    by_cases h2 : k2 = 0
    ·
      have h2n : (k2 != 0) = false := by simpa using h2
      have he := HE.out
      rw [decide_eq_false (by simp [h2] <;> omega)] at he
      simp only [Bool.false_and] at he
      obtain ⟨q0, q2⟩ := he
      subst q0 q2
      clear HE h2
      go_wp2_with (first | (at_make; refine Stop.un ?_) | (at_builtin; refine Stop.un ?_) | (with_reducible refine Stop.conv 40 9 ?_) | (with_reducible refine Stop.conv 9 40 ?_))
      have RQ := z3.set3 (.bool false) (.bool b1) (.bool false)
      have rq0 := RQ.cell 0 rfl
      have rq1 := RQ.cell 1 rfl
      have rq2 := RQ.cell 2 rfl
      have rql := RQ.lt
      exact bodyPost_ret (v := .agg #[.bool false, .bool b1, .bool false]) (by simp [results, Try.results19, go_sem, rq0, rq1, rq2]) rfl ⟨rfl, below_set3 BB _ _ _  (by omega)⟩
    ·
      have h2n : (k2 != 0) = true := by simpa using h2
      have he := HE.out
      rw [decide_eq_false (by simp [h2] <;> omega)] at he
      simp only [Bool.false_and] at he
      obtain ⟨q0, q2⟩ := he
      subst q0 q2
      clear HE h2
      go_wp2_with (first | (at_make; refine Stop.un ?_) | (at_builtin; refine Stop.un ?_) | (with_reducible refine Stop.conv 40 9 ?_) | (with_reducible refine Stop.conv 9 40 ?_))
      have RQ := z3.set3 (.bool false) (.bool b1) (.bool false)
      have rq0 := RQ.cell 0 rfl
      have rq1 := RQ.cell 1 rfl
      have rq2 := RQ.cell 2 rfl
      have rql := RQ.lt
      exact bodyPost_ret (v := .agg #[.bool false, .bool b1, .bool false]) (by simp [results, Try.results19, go_sem, rq0, rq1, rq2]) rfl ⟨rfl, below_set3 BB _ _ _  (by omega)⟩
end Go.Proofs.Ytdpmaocbfmgmlaa
