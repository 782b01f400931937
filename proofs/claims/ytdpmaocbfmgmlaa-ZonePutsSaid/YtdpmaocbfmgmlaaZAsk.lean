/- What may come of what is known: what the program and the reference return. -/
import Derived.Test.YtdpmaocbfmgmlaaZMerge
import Derived.Deep.DeepCutAuto
import Derived.Deep.CutBlock
set_option linter.unusedVariables false
set_option linter.unusedSimpArgs false
namespace Go.Proofs.Ytdpmaocbfmgmlaa
open Go.RowKit
def Tri3.val (t : Tri3) : Value := .agg #[.bool t.no, .bool t.un, .bool t.yes]
def unZ (z : Zn) (v : V) : Tri3 := ⟨false, (mayZ z v false false).un, false⟩
set_option maxHeartbeats 2000000 in
theorem may_any (z : Zn) (v : V) (no yes : Bool) (w : World) : Calls Try.prog 36 #[z.val, v.val, .bool no, .bool yes] w (fun e w' => e = .returned (mayZ z v no yes).val ∧ Below w.heap.size w w') := by
  obtain ⟨⟨k, n, s⟩, ⟨k', n', s'⟩, nu, ma⟩ := z
  obtain ⟨k2, n2, s2⟩ := v
  simp only [Zn.val, V.val]
  generalize he : mayZ ⟨⟨k, n, s⟩, ⟨k', n', s'⟩, nu, ma⟩ ⟨k2, n2, s2⟩ no yes = t
  obtain ⟨b0, b1, b2⟩ := t
  have HE := Lib.hid he
  clear he
  simp only [Tri3.val]
  go_enter Try.func36, Try.ntmps36
  go_upto_region 1 with fail
  have z1 : At (((w.alloc (.cells #[.int .u8 k, .int .i64 n, .string s, .int .u8 k', .int .i64 n', .string s', .int .i64 nu, .int .i64 ma] 26)).alloc (.cells #[.int .u8 k2, .int .i64 n2, .string s2] 24)).alloc (.cells #[.bool false, .bool false, .bool false] 34)) (w.heap.size) #[.int .u8 k, .int .i64 n, .string s, .int .u8 k', .int .i64 n', .string s', .int .i64 nu, .int .i64 ma] 26 := by simpa only [World.size_alloc, Nat.add_assoc, Nat.reduceAdd] using ((At.new w #[.int .u8 k, .int .i64 n, .string s, .int .u8 k', .int .i64 n', .string s', .int .i64 nu, .int .i64 ma] 26).alloc (.cells #[.int .u8 k2, .int .i64 n2, .string s2] 24)).alloc (.cells #[.bool false, .bool false, .bool false] 34)
  have z2 : At (((w.alloc (.cells #[.int .u8 k, .int .i64 n, .string s, .int .u8 k', .int .i64 n', .string s', .int .i64 nu, .int .i64 ma] 26)).alloc (.cells #[.int .u8 k2, .int .i64 n2, .string s2] 24)).alloc (.cells #[.bool false, .bool false, .bool false] 34)) (w.heap.size + 1) #[.int .u8 k2, .int .i64 n2, .string s2] 24 := by simpa only [World.size_alloc, Nat.add_assoc, Nat.reduceAdd] using (At.new (w.alloc (.cells #[.int .u8 k, .int .i64 n, .string s, .int .u8 k', .int .i64 n', .string s', .int .i64 nu, .int .i64 ma] 26)) #[.int .u8 k2, .int .i64 n2, .string s2] 24).alloc (.cells #[.bool false, .bool false, .bool false] 34)
  have z3 : At (((w.alloc (.cells #[.int .u8 k, .int .i64 n, .string s, .int .u8 k', .int .i64 n', .string s', .int .i64 nu, .int .i64 ma] 26)).alloc (.cells #[.int .u8 k2, .int .i64 n2, .string s2] 24)).alloc (.cells #[.bool false, .bool false, .bool false] 34)) (w.heap.size + 2) #[.bool false, .bool false, .bool false] 34 := by simpa only [World.size_alloc, Nat.add_assoc, Nat.reduceAdd] using At.new ((w.alloc (.cells #[.int .u8 k, .int .i64 n, .string s, .int .u8 k', .int .i64 n', .string s', .int .i64 nu, .int .i64 ma] 26)).alloc (.cells #[.int .u8 k2, .int .i64 n2, .string s2] 24)) #[.bool false, .bool false, .bool false] 34
  have BB : Below w.heap.size w (((w.alloc (.cells #[.int .u8 k, .int .i64 n, .string s, .int .u8 k', .int .i64 n', .string s', .int .i64 nu, .int .i64 ma] 26)).alloc (.cells #[.int .u8 k2, .int .i64 n2, .string s2] 24)).alloc (.cells #[.bool false, .bool false, .bool false] 34)) := Below.alloc (Below.alloc (Below.alloc (Below.refl w.heap.size w) (by (try simp only [World.size_alloc]) <;> omega) (.cells #[.int .u8 k, .int .i64 n, .string s, .int .u8 k', .int .i64 n', .string s', .int .i64 nu, .int .i64 ma] 26)) (by (try simp only [World.size_alloc]) <;> omega) (.cells #[.int .u8 k2, .int .i64 n2, .string s2] 24)) (by (try simp only [World.size_alloc]) <;> omega) (.cells #[.bool false, .bool false, .bool false] 34)
  generalize (((w.alloc (.cells #[.int .u8 k, .int .i64 n, .string s, .int .u8 k', .int .i64 n', .string s', .int .i64 nu, .int .i64 ma] 26)).alloc (.cells #[.int .u8 k2, .int .i64 n2, .string s2] 24)).alloc (.cells #[.bool false, .bool false, .bool false] 34)) = wx at z1 z2 z3 BB ⊢
  have x6 := z1.cell 6 rfl
  have x7 := z1.cell 7 rfl
  have xl := z1.lt
  have y0 := z2.cell 0 rfl
  have yl := z2.lt
  have u0 := z3.cell 0 rfl
  have uf0 := z3.free 0
  have u1 := z3.cell 1 rfl
  have uf1 := z3.free 1
  have u2 := z3.cell 2 rfl
  have uf2 := z3.free 2
  have ul := z3.lt
  simp only [Nat.add_assoc, Nat.reduceAdd] at *
  by_cases h1 : 0 < nu
  ·
    by_cases h2 : k2 = 0
    ·
      have h2b : (k2 == 0) = true := by simpa using h2
      have h2n : (k2 != 0) = false := by simpa using h2
      by_cases h3 : 0 < ma
      ·
        by_cases h4 : nu < ma
        ·
          have he : (⟨false, true, false⟩ : Tri3) = ⟨b0, b1, b2⟩ := by rw [← HE.out]; simp [mayZ, h1, h2, h3, h4]
          simp only [Tri3.mk.injEq] at he
          obtain ⟨q0, q1, q2⟩ := he
          subst q0 q1 q2
          clear HE
          clear h2
          go_wp2_with (first | (at_make; refine Stop.un ?_) | (at_builtin; refine Stop.un ?_) | (with_reducible refine Stop.conv 40 9 ?_) | (with_reducible refine Stop.conv 9 40 ?_))
          have zs0 : At _ _ #[.bool false, .bool true, .bool false] _ := (z3).set 1 (.bool true)
          have zs1 : At _ _ #[.bool false, .bool true, .bool false] _ := (zs0).set 0 (.bool false)
          have zs2 : At _ _ #[.bool false, .bool true, .bool false] _ := (zs1).set 1 (.bool true)
          have zs3 : At _ _ #[.bool false, .bool true, .bool false] _ := (zs2).set 2 (.bool false)
          have RQ := zs3
          have rq0 := RQ.cell 0 rfl
          have rq1 := RQ.cell 1 rfl
          have rq2 := RQ.cell 2 rfl
          have rql := RQ.lt
          exact bodyPost_ret (v := .agg #[.bool false, .bool true, .bool false]) (by simp [results, Try.results36, go_sem, rq0, rq1, rq2]) rfl ⟨rfl, by repeat' (first | with_reducible exact BB | refine Below.setCell ?_ (by simp <;> omega) _)⟩
        ·
          have he : (⟨false, true, false⟩ : Tri3) = ⟨b0, b1, b2⟩ := by rw [← HE.out]; simp [mayZ, h1, h2, h3, h4]
          simp only [Tri3.mk.injEq] at he
          obtain ⟨q0, q1, q2⟩ := he
          subst q0 q1 q2
          clear HE
          clear h2
          go_wp2_with (first | (at_make; refine Stop.un ?_) | (at_builtin; refine Stop.un ?_) | (with_reducible refine Stop.conv 40 9 ?_) | (with_reducible refine Stop.conv 9 40 ?_))
          have zs0 : At _ _ #[.bool false, .bool true, .bool false] _ := (z3).set 1 (.bool true)
          have zs1 : At _ _ #[.bool false, .bool true, .bool false] _ := (zs0).set 0 (.bool false)
          have zs2 : At _ _ #[.bool false, .bool true, .bool false] _ := (zs1).set 1 (.bool true)
          have zs3 : At _ _ #[.bool false, .bool true, .bool false] _ := (zs2).set 2 (.bool false)
          have RQ := zs3
          have rq0 := RQ.cell 0 rfl
          have rq1 := RQ.cell 1 rfl
          have rq2 := RQ.cell 2 rfl
          have rql := RQ.lt
          exact bodyPost_ret (v := .agg #[.bool false, .bool true, .bool false]) (by simp [results, Try.results36, go_sem, rq0, rq1, rq2]) rfl ⟨rfl, by repeat' (first | with_reducible exact BB | refine Below.setCell ?_ (by simp <;> omega) _)⟩
      ·
        by_cases h4 : nu < ma
        ·
          exfalso
          omega
        ·
          have he : (⟨false, true, false⟩ : Tri3) = ⟨b0, b1, b2⟩ := by rw [← HE.out]; simp [mayZ, h1, h2, h3, h4]
          simp only [Tri3.mk.injEq] at he
          obtain ⟨q0, q1, q2⟩ := he
          subst q0 q1 q2
          clear HE
          clear h2
          go_wp2_with (first | (at_make; refine Stop.un ?_) | (at_builtin; refine Stop.un ?_) | (with_reducible refine Stop.conv 40 9 ?_) | (with_reducible refine Stop.conv 9 40 ?_))
          have zs0 : At _ _ #[.bool false, .bool true, .bool false] _ := (z3).set 1 (.bool true)
          have zs1 : At _ _ #[.bool false, .bool true, .bool false] _ := (zs0).set 0 (.bool false)
          have zs2 : At _ _ #[.bool false, .bool true, .bool false] _ := (zs1).set 1 (.bool true)
          have zs3 : At _ _ #[.bool false, .bool true, .bool false] _ := (zs2).set 2 (.bool false)
          have RQ := zs3
          have rq0 := RQ.cell 0 rfl
          have rq1 := RQ.cell 1 rfl
          have rq2 := RQ.cell 2 rfl
          have rql := RQ.lt
          exact bodyPost_ret (v := .agg #[.bool false, .bool true, .bool false]) (by simp [results, Try.results36, go_sem, rq0, rq1, rq2]) rfl ⟨rfl, by repeat' (first | with_reducible exact BB | refine Below.setCell ?_ (by simp <;> omega) _)⟩
    ·
      have h2b : (k2 == 0) = false := by simpa using h2
      have h2n : (k2 != 0) = true := by simpa using h2
      by_cases h3 : 0 < ma
      ·
        by_cases h4 : nu < ma
        ·
          have he : (⟨no, true, yes⟩ : Tri3) = ⟨b0, b1, b2⟩ := by rw [← HE.out]; simp [mayZ, h1, h2, h3, h4]
          simp only [Tri3.mk.injEq] at he
          obtain ⟨q0, q1, q2⟩ := he
          subst q0 q1 q2
          clear HE
          clear h2
          go_wp2_with (first | (at_make; refine Stop.un ?_) | (at_builtin; refine Stop.un ?_) | (with_reducible refine Stop.conv 40 9 ?_) | (with_reducible refine Stop.conv 9 40 ?_))
          have zs0 : At _ _ #[.bool false, .bool true, .bool false] _ := (z3).set 1 (.bool true)
          have zs1 : At _ _ #[.bool no, .bool true, .bool false] _ := (zs0).set 0 (.bool no)
          have zs2 : At _ _ #[.bool no, .bool true, .bool yes] _ := (zs1).set 2 (.bool yes)
          have zs3 : At _ _ #[.bool no, .bool true, .bool yes] _ := (zs2).set 0 (.bool no)
          have zs4 : At _ _ #[.bool no, .bool true, .bool yes] _ := (zs3).set 1 (.bool true)
          have zs5 : At _ _ #[.bool no, .bool true, .bool yes] _ := (zs4).set 2 (.bool yes)
          have RQ := zs5
          have rq0 := RQ.cell 0 rfl
          have rq1 := RQ.cell 1 rfl
          have rq2 := RQ.cell 2 rfl
          have rql := RQ.lt
          exact bodyPost_ret (v := .agg #[.bool no, .bool true, .bool yes]) (by simp [results, Try.results36, go_sem, rq0, rq1, rq2]) rfl ⟨rfl, by repeat' (first | with_reducible exact BB | refine Below.setCell ?_ (by simp <;> omega) _)⟩
        ·
          have he : (⟨false, true, false⟩ : Tri3) = ⟨b0, b1, b2⟩ := by rw [← HE.out]; simp [mayZ, h1, h2, h3, h4]
          simp only [Tri3.mk.injEq] at he
          obtain ⟨q0, q1, q2⟩ := he
          subst q0 q1 q2
          clear HE
          clear h2
          go_wp2_with (first | (at_make; refine Stop.un ?_) | (at_builtin; refine Stop.un ?_) | (with_reducible refine Stop.conv 40 9 ?_) | (with_reducible refine Stop.conv 9 40 ?_))
          have zs0 : At _ _ #[.bool false, .bool true, .bool false] _ := (z3).set 1 (.bool true)
          have zs1 : At _ _ #[.bool false, .bool true, .bool false] _ := (zs0).set 0 (.bool false)
          have zs2 : At _ _ #[.bool false, .bool true, .bool false] _ := (zs1).set 1 (.bool true)
          have zs3 : At _ _ #[.bool false, .bool true, .bool false] _ := (zs2).set 2 (.bool false)
          have RQ := zs3
          have rq0 := RQ.cell 0 rfl
          have rq1 := RQ.cell 1 rfl
          have rq2 := RQ.cell 2 rfl
          have rql := RQ.lt
          exact bodyPost_ret (v := .agg #[.bool false, .bool true, .bool false]) (by simp [results, Try.results36, go_sem, rq0, rq1, rq2]) rfl ⟨rfl, by repeat' (first | with_reducible exact BB | refine Below.setCell ?_ (by simp <;> omega) _)⟩
      ·
        by_cases h4 : nu < ma
        ·
          exfalso
          omega
        ·
          have he : (⟨false, true, false⟩ : Tri3) = ⟨b0, b1, b2⟩ := by rw [← HE.out]; simp [mayZ, h1, h2, h3, h4]
          simp only [Tri3.mk.injEq] at he
          obtain ⟨q0, q1, q2⟩ := he
          subst q0 q1 q2
          clear HE
          clear h2
          go_wp2_with (first | (at_make; refine Stop.un ?_) | (at_builtin; refine Stop.un ?_) | (with_reducible refine Stop.conv 40 9 ?_) | (with_reducible refine Stop.conv 9 40 ?_))
          have zs0 : At _ _ #[.bool false, .bool true, .bool false] _ := (z3).set 1 (.bool true)
          have zs1 : At _ _ #[.bool false, .bool true, .bool false] _ := (zs0).set 0 (.bool false)
          have zs2 : At _ _ #[.bool false, .bool true, .bool false] _ := (zs1).set 1 (.bool true)
          have zs3 : At _ _ #[.bool false, .bool true, .bool false] _ := (zs2).set 2 (.bool false)
          have RQ := zs3
          have rq0 := RQ.cell 0 rfl
          have rq1 := RQ.cell 1 rfl
          have rq2 := RQ.cell 2 rfl
          have rql := RQ.lt
          exact bodyPost_ret (v := .agg #[.bool false, .bool true, .bool false]) (by simp [results, Try.results36, go_sem, rq0, rq1, rq2]) rfl ⟨rfl, by repeat' (first | with_reducible exact BB | refine Below.setCell ?_ (by simp <;> omega) _)⟩
  ·
    by_cases h2 : k2 = 0
    ·
      have h2b : (k2 == 0) = true := by simpa using h2
      have h2n : (k2 != 0) = false := by simpa using h2
      by_cases h3 : 0 < ma
      ·
        by_cases h4 : nu < ma
        ·
          have he : (⟨false, true, false⟩ : Tri3) = ⟨b0, b1, b2⟩ := by rw [← HE.out]; simp [mayZ, h1, h2, h3, h4]
          simp only [Tri3.mk.injEq] at he
          obtain ⟨q0, q1, q2⟩ := he
          subst q0 q1 q2
          clear HE
          clear h2
          go_wp2_with (first | (at_make; refine Stop.un ?_) | (at_builtin; refine Stop.un ?_) | (with_reducible refine Stop.conv 40 9 ?_) | (with_reducible refine Stop.conv 9 40 ?_))
          have zs0 : At _ _ #[.bool false, .bool true, .bool false] _ := (z3).set 1 (.bool true)
          have zs1 : At _ _ #[.bool false, .bool true, .bool false] _ := (zs0).set 0 (.bool false)
          have zs2 : At _ _ #[.bool false, .bool true, .bool false] _ := (zs1).set 1 (.bool true)
          have zs3 : At _ _ #[.bool false, .bool true, .bool false] _ := (zs2).set 2 (.bool false)
          have RQ := zs3
          have rq0 := RQ.cell 0 rfl
          have rq1 := RQ.cell 1 rfl
          have rq2 := RQ.cell 2 rfl
          have rql := RQ.lt
          exact bodyPost_ret (v := .agg #[.bool false, .bool true, .bool false]) (by simp [results, Try.results36, go_sem, rq0, rq1, rq2]) rfl ⟨rfl, by repeat' (first | with_reducible exact BB | refine Below.setCell ?_ (by simp <;> omega) _)⟩
        ·
          exfalso
          omega
      ·
        by_cases h4 : nu < ma
        ·
          have he : (⟨false, false, false⟩ : Tri3) = ⟨b0, b1, b2⟩ := by rw [← HE.out]; simp [mayZ, h1, h2, h3, h4]
          simp only [Tri3.mk.injEq] at he
          obtain ⟨q0, q1, q2⟩ := he
          subst q0 q1 q2
          clear HE
          clear h2
          go_wp2_with (first | (at_make; refine Stop.un ?_) | (at_builtin; refine Stop.un ?_) | (with_reducible refine Stop.conv 40 9 ?_) | (with_reducible refine Stop.conv 9 40 ?_))
          have zs0 : At _ _ #[.bool false, .bool false, .bool false] _ := (z3).set 1 (.bool false)
          have zs1 : At _ _ #[.bool false, .bool false, .bool false] _ := (zs0).set 0 (.bool false)
          have zs2 : At _ _ #[.bool false, .bool false, .bool false] _ := (zs1).set 1 (.bool false)
          have zs3 : At _ _ #[.bool false, .bool false, .bool false] _ := (zs2).set 2 (.bool false)
          have RQ := zs3
          have rq0 := RQ.cell 0 rfl
          have rq1 := RQ.cell 1 rfl
          have rq2 := RQ.cell 2 rfl
          have rql := RQ.lt
          exact bodyPost_ret (v := .agg #[.bool false, .bool false, .bool false]) (by simp [results, Try.results36, go_sem, rq0, rq1, rq2]) rfl ⟨rfl, by repeat' (first | with_reducible exact BB | refine Below.setCell ?_ (by simp <;> omega) _)⟩
        ·
          have he : (⟨false, false, false⟩ : Tri3) = ⟨b0, b1, b2⟩ := by rw [← HE.out]; simp [mayZ, h1, h2, h3, h4]
          simp only [Tri3.mk.injEq] at he
          obtain ⟨q0, q1, q2⟩ := he
          subst q0 q1 q2
          clear HE
          clear h2
          go_wp2_with (first | (at_make; refine Stop.un ?_) | (at_builtin; refine Stop.un ?_) | (with_reducible refine Stop.conv 40 9 ?_) | (with_reducible refine Stop.conv 9 40 ?_))
          have zs0 : At _ _ #[.bool false, .bool false, .bool false] _ := (z3).set 1 (.bool false)
          have zs1 : At _ _ #[.bool false, .bool false, .bool false] _ := (zs0).set 0 (.bool false)
          have zs2 : At _ _ #[.bool false, .bool false, .bool false] _ := (zs1).set 1 (.bool false)
          have zs3 : At _ _ #[.bool false, .bool false, .bool false] _ := (zs2).set 2 (.bool false)
          have RQ := zs3
          have rq0 := RQ.cell 0 rfl
          have rq1 := RQ.cell 1 rfl
          have rq2 := RQ.cell 2 rfl
          have rql := RQ.lt
          exact bodyPost_ret (v := .agg #[.bool false, .bool false, .bool false]) (by simp [results, Try.results36, go_sem, rq0, rq1, rq2]) rfl ⟨rfl, by repeat' (first | with_reducible exact BB | refine Below.setCell ?_ (by simp <;> omega) _)⟩
    ·
      have h2b : (k2 == 0) = false := by simpa using h2
      have h2n : (k2 != 0) = true := by simpa using h2
      by_cases h3 : 0 < ma
      ·
        by_cases h4 : nu < ma
        ·
          have he : (⟨no, false, yes⟩ : Tri3) = ⟨b0, b1, b2⟩ := by rw [← HE.out]; simp [mayZ, h1, h2, h3, h4]
          simp only [Tri3.mk.injEq] at he
          obtain ⟨q0, q1, q2⟩ := he
          subst q0 q1 q2
          clear HE
          clear h2
          go_wp2_with (first | (at_make; refine Stop.un ?_) | (at_builtin; refine Stop.un ?_) | (with_reducible refine Stop.conv 40 9 ?_) | (with_reducible refine Stop.conv 9 40 ?_))
          have zs0 : At _ _ #[.bool false, .bool false, .bool false] _ := (z3).set 1 (.bool false)
          have zs1 : At _ _ #[.bool no, .bool false, .bool false] _ := (zs0).set 0 (.bool no)
          have zs2 : At _ _ #[.bool no, .bool false, .bool yes] _ := (zs1).set 2 (.bool yes)
          have zs3 : At _ _ #[.bool no, .bool false, .bool yes] _ := (zs2).set 0 (.bool no)
          have zs4 : At _ _ #[.bool no, .bool false, .bool yes] _ := (zs3).set 1 (.bool false)
          have zs5 : At _ _ #[.bool no, .bool false, .bool yes] _ := (zs4).set 2 (.bool yes)
          have RQ := zs5
          have rq0 := RQ.cell 0 rfl
          have rq1 := RQ.cell 1 rfl
          have rq2 := RQ.cell 2 rfl
          have rql := RQ.lt
          exact bodyPost_ret (v := .agg #[.bool no, .bool false, .bool yes]) (by simp [results, Try.results36, go_sem, rq0, rq1, rq2]) rfl ⟨rfl, by repeat' (first | with_reducible exact BB | refine Below.setCell ?_ (by simp <;> omega) _)⟩
        ·
          exfalso
          omega
      ·
        by_cases h4 : nu < ma
        ·
          have he : (⟨no, false, yes⟩ : Tri3) = ⟨b0, b1, b2⟩ := by rw [← HE.out]; simp [mayZ, h1, h2, h3, h4]
          simp only [Tri3.mk.injEq] at he
          obtain ⟨q0, q1, q2⟩ := he
          subst q0 q1 q2
          clear HE
          clear h2
          go_wp2_with (first | (at_make; refine Stop.un ?_) | (at_builtin; refine Stop.un ?_) | (with_reducible refine Stop.conv 40 9 ?_) | (with_reducible refine Stop.conv 9 40 ?_))
          have zs0 : At _ _ #[.bool false, .bool false, .bool false] _ := (z3).set 1 (.bool false)
          have zs1 : At _ _ #[.bool no, .bool false, .bool false] _ := (zs0).set 0 (.bool no)
          have zs2 : At _ _ #[.bool no, .bool false, .bool yes] _ := (zs1).set 2 (.bool yes)
          have zs3 : At _ _ #[.bool no, .bool false, .bool yes] _ := (zs2).set 0 (.bool no)
          have zs4 : At _ _ #[.bool no, .bool false, .bool yes] _ := (zs3).set 1 (.bool false)
          have zs5 : At _ _ #[.bool no, .bool false, .bool yes] _ := (zs4).set 2 (.bool yes)
          have RQ := zs5
          have rq0 := RQ.cell 0 rfl
          have rq1 := RQ.cell 1 rfl
          have rq2 := RQ.cell 2 rfl
          have rql := RQ.lt
          exact bodyPost_ret (v := .agg #[.bool no, .bool false, .bool yes]) (by simp [results, Try.results36, go_sem, rq0, rq1, rq2]) rfl ⟨rfl, by repeat' (first | with_reducible exact BB | refine Below.setCell ?_ (by simp <;> omega) _)⟩
        ·
          have he : (⟨false, false, false⟩ : Tri3) = ⟨b0, b1, b2⟩ := by rw [← HE.out]; simp [mayZ, h1, h2, h3, h4]
          simp only [Tri3.mk.injEq] at he
          obtain ⟨q0, q1, q2⟩ := he
          subst q0 q1 q2
          clear HE
          clear h2
          go_wp2_with (first | (at_make; refine Stop.un ?_) | (at_builtin; refine Stop.un ?_) | (with_reducible refine Stop.conv 40 9 ?_) | (with_reducible refine Stop.conv 9 40 ?_))
          have zs0 : At _ _ #[.bool false, .bool false, .bool false] _ := (z3).set 1 (.bool false)
          have zs1 : At _ _ #[.bool false, .bool false, .bool false] _ := (zs0).set 0 (.bool false)
          have zs2 : At _ _ #[.bool false, .bool false, .bool false] _ := (zs1).set 1 (.bool false)
          have zs3 : At _ _ #[.bool false, .bool false, .bool false] _ := (zs2).set 2 (.bool false)
          have RQ := zs3
          have rq0 := RQ.cell 0 rfl
          have rq1 := RQ.cell 1 rfl
          have rq2 := RQ.cell 2 rfl
          have rql := RQ.lt
          exact bodyPost_ret (v := .agg #[.bool false, .bool false, .bool false]) (by simp [results, Try.results36, go_sem, rq0, rq1, rq2]) rfl ⟨rfl, by repeat' (first | with_reducible exact BB | refine Below.setCell ?_ (by simp <;> omega) _)⟩
set_option maxHeartbeats 4000000 in
theorem zequal_any (z : Zn) (v : V) (w : World) : Calls Try.prog 16 #[z.val, v.val] w (fun e w' => e = .returned (equalZ z v).val ∧ Below w.heap.size w w') := by
  obtain ⟨⟨k, n, s⟩, ⟨k', n', s'⟩, nu, ma⟩ := z
  obtain ⟨k2, n2, s2⟩ := v
  simp only [Zn.val, V.val]
  generalize he : equalZ ⟨⟨k, n, s⟩, ⟨k', n', s'⟩, nu, ma⟩ ⟨k2, n2, s2⟩ = t
  obtain ⟨b0, b1, b2⟩ := t
  have HE := Lib.hid he
  clear he
  simp only [Tri3.val]
  have HM := Lib.hid (fun no yes w => may_any ⟨⟨k, n, s⟩, ⟨k', n', s'⟩, nu, ma⟩ ⟨k2, n2, s2⟩ no yes w)
  have HCc := Lib.hid (fun w => compare_x k2 n2 s2 k n s w)
  have HRc := Lib.hid (cmpV_range ⟨k2, n2, s2⟩ ⟨k, n, s⟩)
  have HCd := Lib.hid (fun w => compare_x k2 n2 s2 k' n' s' w)
  have HRd := Lib.hid (cmpV_range ⟨k2, n2, s2⟩ ⟨k', n', s'⟩)
  unfold equalZ at HE
  simp only at HE
  generalize cmpV ⟨k2, n2, s2⟩ ⟨k, n, s⟩ = c at HCc HRc HE
  generalize cmpV ⟨k2, n2, s2⟩ ⟨k', n', s'⟩ = d at HCd HRd HE
  go_enter Try.func16, Try.ntmps16
  go_upto_region 1 with fail
  have z1 : At (((w.alloc (.cells #[.int .u8 k, .int .i64 n, .string s, .int .u8 k', .int .i64 n', .string s', .int .i64 nu, .int .i64 ma] 26)).alloc (.cells #[.int .u8 k2, .int .i64 n2, .string s2] 24)).alloc (.cells #[.bool false, .bool false, .bool false] 34)) (w.heap.size) #[.int .u8 k, .int .i64 n, .string s, .int .u8 k', .int .i64 n', .string s', .int .i64 nu, .int .i64 ma] 26 := by simpa only [World.size_alloc, Nat.add_assoc, Nat.reduceAdd] using ((At.new w #[.int .u8 k, .int .i64 n, .string s, .int .u8 k', .int .i64 n', .string s', .int .i64 nu, .int .i64 ma] 26).alloc (.cells #[.int .u8 k2, .int .i64 n2, .string s2] 24)).alloc (.cells #[.bool false, .bool false, .bool false] 34)
  have z2 : At (((w.alloc (.cells #[.int .u8 k, .int .i64 n, .string s, .int .u8 k', .int .i64 n', .string s', .int .i64 nu, .int .i64 ma] 26)).alloc (.cells #[.int .u8 k2, .int .i64 n2, .string s2] 24)).alloc (.cells #[.bool false, .bool false, .bool false] 34)) (w.heap.size + 1) #[.int .u8 k2, .int .i64 n2, .string s2] 24 := by simpa only [World.size_alloc, Nat.add_assoc, Nat.reduceAdd] using (At.new (w.alloc (.cells #[.int .u8 k, .int .i64 n, .string s, .int .u8 k', .int .i64 n', .string s', .int .i64 nu, .int .i64 ma] 26)) #[.int .u8 k2, .int .i64 n2, .string s2] 24).alloc (.cells #[.bool false, .bool false, .bool false] 34)
  have z3 : At (((w.alloc (.cells #[.int .u8 k, .int .i64 n, .string s, .int .u8 k', .int .i64 n', .string s', .int .i64 nu, .int .i64 ma] 26)).alloc (.cells #[.int .u8 k2, .int .i64 n2, .string s2] 24)).alloc (.cells #[.bool false, .bool false, .bool false] 34)) (w.heap.size + 2) #[.bool false, .bool false, .bool false] 34 := by simpa only [World.size_alloc, Nat.add_assoc, Nat.reduceAdd] using At.new ((w.alloc (.cells #[.int .u8 k, .int .i64 n, .string s, .int .u8 k', .int .i64 n', .string s', .int .i64 nu, .int .i64 ma] 26)).alloc (.cells #[.int .u8 k2, .int .i64 n2, .string s2] 24)) #[.bool false, .bool false, .bool false] 34
  have BB : Below w.heap.size w (((w.alloc (.cells #[.int .u8 k, .int .i64 n, .string s, .int .u8 k', .int .i64 n', .string s', .int .i64 nu, .int .i64 ma] 26)).alloc (.cells #[.int .u8 k2, .int .i64 n2, .string s2] 24)).alloc (.cells #[.bool false, .bool false, .bool false] 34)) := Below.alloc (Below.alloc (Below.alloc (Below.refl w.heap.size w) (by (try simp only [World.size_alloc]) <;> omega) (.cells #[.int .u8 k, .int .i64 n, .string s, .int .u8 k', .int .i64 n', .string s', .int .i64 nu, .int .i64 ma] 26)) (by (try simp only [World.size_alloc]) <;> omega) (.cells #[.int .u8 k2, .int .i64 n2, .string s2] 24)) (by (try simp only [World.size_alloc]) <;> omega) (.cells #[.bool false, .bool false, .bool false] 34)
  have z1_b : w.heap.size < w.heap.size + 2 := by omega
  have z2_b : w.heap.size + 1 < w.heap.size + 2 := by omega
  have HSZ : Hid (w.heap.size + 2 ≤ (((w.alloc (.cells #[.int .u8 k, .int .i64 n, .string s, .int .u8 k', .int .i64 n', .string s', .int .i64 nu, .int .i64 ma] 26)).alloc (.cells #[.int .u8 k2, .int .i64 n2, .string s2] 24)).alloc (.cells #[.bool false, .bool false, .bool false] 34)).heap.size) := Lib.hid (by (try simp only [World.size_alloc]) <;> omega)
  refine mix_startX (w.heap.size + 2) none 10 rfl (by kernel_rfl) ?_
  intro xq hxq
  replace z1 := At.mono z1 hxq
  replace z2 := At.mono z2 hxq
  replace z3 := At.mono z3 hxq
  replace BB := Below.next BB hxq
  replace HSZ := Lib.hid (Nat.le_trans (Hid.out HSZ) (Below.size hxq))
  clear hxq
  refine mix_quiet (Keeps.rx (w.heap.size + 2) none) 0 rfl (by kernel_rfl) rfl ?_
  intro ι U hne hU
  have hcw0 := fun ii => (RX.at (hU ii) z1 z1_b).cell 0 rfl
  have hcw1 := fun ii => (RX.at (hU ii) z1 z1_b).cell 1 rfl
  have hcw2 := fun ii => (RX.at (hU ii) z1 z1_b).cell 2 rfl
  have hcw3 := fun ii => (RX.at (hU ii) z1 z1_b).cell 3 rfl
  have hcw4 := fun ii => (RX.at (hU ii) z1 z1_b).cell 4 rfl
  have hcw5 := fun ii => (RX.at (hU ii) z1 z1_b).cell 5 rfl
  have hcw6 := fun ii => (RX.at (hU ii) z1 z1_b).cell 6 rfl
  have hcw7 := fun ii => (RX.at (hU ii) z1 z1_b).cell 7 rfl
  have hcw8 := fun ii => (RX.at (hU ii) z2 z2_b).cell 0 rfl
  have hcw9 := fun ii => (RX.at (hU ii) z2 z2_b).cell 1 rfl
  have hcw10 := fun ii => (RX.at (hU ii) z2 z2_b).cell 2 rfl
  go_big_quiet_op
  clear hU hne hcw0 hcw1 hcw2 hcw3 hcw4 hcw5 hcw6 hcw7 hcw8 hcw9 hcw10 U ι
  show wpAnyM _ _ _ _ _ _ _ _ _
  refine mix_quiet (Keeps.rx (w.heap.size + 2) none) 1 rfl (by kernel_rfl) rfl ?_
  intro ι U hne hU
  go_big_quiet_op
  clear hU hne U ι
  show wpAnyM _ _ _ _ _ _ _ _ _
  refine mix_quiet (Keeps.rx (w.heap.size + 2) none) 2 rfl (by kernel_rfl) rfl ?_
  intro ι U hne hU
  have hcw0 := fun ii => (RX.at (hU ii) z1 z1_b).cell 0 rfl
  have hcw1 := fun ii => (RX.at (hU ii) z1 z1_b).cell 1 rfl
  have hcw2 := fun ii => (RX.at (hU ii) z1 z1_b).cell 2 rfl
  have hcw3 := fun ii => (RX.at (hU ii) z1 z1_b).cell 3 rfl
  have hcw4 := fun ii => (RX.at (hU ii) z1 z1_b).cell 4 rfl
  have hcw5 := fun ii => (RX.at (hU ii) z1 z1_b).cell 5 rfl
  have hcw6 := fun ii => (RX.at (hU ii) z1 z1_b).cell 6 rfl
  have hcw7 := fun ii => (RX.at (hU ii) z1 z1_b).cell 7 rfl
  have hcw8 := fun ii => (RX.at (hU ii) z2 z2_b).cell 0 rfl
  have hcw9 := fun ii => (RX.at (hU ii) z2 z2_b).cell 1 rfl
  have hcw10 := fun ii => (RX.at (hU ii) z2 z2_b).cell 2 rfl
  go_big_quiet_op
  clear hU hne hcw0 hcw1 hcw2 hcw3 hcw4 hcw5 hcw6 hcw7 hcw8 hcw9 hcw10 U ι
  show wpAnyM _ _ _ _ _ _ _ _ _
  refine mix_quiet (Keeps.rx (w.heap.size + 2) none) 4 rfl (by kernel_rfl) rfl ?_
  intro ι U hne hU
  have hcw0 := fun ii => (RX.at (hU ii) z1 z1_b).cell 0 rfl
  have hcw1 := fun ii => (RX.at (hU ii) z1 z1_b).cell 1 rfl
  have hcw2 := fun ii => (RX.at (hU ii) z1 z1_b).cell 2 rfl
  have hcw3 := fun ii => (RX.at (hU ii) z1 z1_b).cell 3 rfl
  have hcw4 := fun ii => (RX.at (hU ii) z1 z1_b).cell 4 rfl
  have hcw5 := fun ii => (RX.at (hU ii) z1 z1_b).cell 5 rfl
  have hcw6 := fun ii => (RX.at (hU ii) z1 z1_b).cell 6 rfl
  have hcw7 := fun ii => (RX.at (hU ii) z1 z1_b).cell 7 rfl
  have hcw8 := fun ii => (RX.at (hU ii) z2 z2_b).cell 0 rfl
  have hcw9 := fun ii => (RX.at (hU ii) z2 z2_b).cell 1 rfl
  have hcw10 := fun ii => (RX.at (hU ii) z2 z2_b).cell 2 rfl
  go_big_quiet_op
  clear hU hne hcw0 hcw1 hcw2 hcw3 hcw4 hcw5 hcw6 hcw7 hcw8 hcw9 hcw10 U ι
  show wpAnyM _ _ _ _ _ _ _ _ _
  refine mix_quiet (Keeps.rx (w.heap.size + 2) none) 5 rfl (by kernel_rfl) rfl ?_
  intro ι U hne hU
  go_big_quiet_op
  clear hU hne U ι
  show wpAnyM _ _ _ _ _ _ _ _ _
  refine mix_quiet (Keeps.rx (w.heap.size + 2) none) 6 rfl (by kernel_rfl) rfl ?_
  intro ι U hne hU
  have hcw0 := fun ii => (RX.at (hU ii) z1 z1_b).cell 0 rfl
  have hcw1 := fun ii => (RX.at (hU ii) z1 z1_b).cell 1 rfl
  have hcw2 := fun ii => (RX.at (hU ii) z1 z1_b).cell 2 rfl
  have hcw3 := fun ii => (RX.at (hU ii) z1 z1_b).cell 3 rfl
  have hcw4 := fun ii => (RX.at (hU ii) z1 z1_b).cell 4 rfl
  have hcw5 := fun ii => (RX.at (hU ii) z1 z1_b).cell 5 rfl
  have hcw6 := fun ii => (RX.at (hU ii) z1 z1_b).cell 6 rfl
  have hcw7 := fun ii => (RX.at (hU ii) z1 z1_b).cell 7 rfl
  have hcw8 := fun ii => (RX.at (hU ii) z2 z2_b).cell 0 rfl
  have hcw9 := fun ii => (RX.at (hU ii) z2 z2_b).cell 1 rfl
  have hcw10 := fun ii => (RX.at (hU ii) z2 z2_b).cell 2 rfl
  go_big_quiet_op
  clear hU hne hcw0 hcw1 hcw2 hcw3 hcw4 hcw5 hcw6 hcw7 hcw8 hcw9 hcw10 U ι
  show wpAnyM _ _ _ _ _ _ _ _ _
  refine mix_any 3 rfl (by kernel_rfl) rfl ?_
  go_wp2_with (first | (at_make; refine Stop.un ?_) | (at_builtin; refine Stop.un ?_) | (with_reducible refine Stop.conv 40 9 ?_) | (with_reducible refine Stop.conv 9 40 ?_))
  refine (HCc.out _).mono ?_
  rintro e wq1 ⟨rfl, bq1⟩
  go_wp2_with (first | (at_make; refine Stop.un ?_) | (at_builtin; refine Stop.un ?_) | (with_reducible refine Stop.conv 40 9 ?_) | (with_reducible refine Stop.conv 9 40 ?_))
  refine MixPost.mk (RX.ext bq1 (Hid.out HSZ)) ?_
  replace z1 := At.mono z1 bq1
  replace z2 := At.mono z2 bq1
  replace z3 := At.mono z3 bq1
  replace BB := Below.next BB bq1
  replace HSZ := Lib.hid (Nat.le_trans (Hid.out HSZ) (Below.size bq1))
  clear bq1
  refine mix_any 7 rfl (by kernel_rfl) rfl ?_
  go_wp2_with (first | (at_make; refine Stop.un ?_) | (at_builtin; refine Stop.un ?_) | (with_reducible refine Stop.conv 40 9 ?_) | (with_reducible refine Stop.conv 9 40 ?_))
  refine (HCd.out _).mono ?_
  rintro e wq2 ⟨rfl, bq2⟩
  go_wp2_with (first | (at_make; refine Stop.un ?_) | (at_builtin; refine Stop.un ?_) | (with_reducible refine Stop.conv 40 9 ?_) | (with_reducible refine Stop.conv 9 40 ?_))
  refine MixPost.mk (RX.ext bq2 (Hid.out HSZ)) ?_
  replace z1 := At.mono z1 bq2
  replace z2 := At.mono z2 bq2
  replace z3 := At.mono z3 bq2
  replace BB := Below.next BB bq2
  replace HSZ := Lib.hid (Nat.le_trans (Hid.out HSZ) (Below.size bq2))
  clear bq2
  refine mix_quiet (Keeps.rx (w.heap.size + 2) none) 8 rfl (by kernel_rfl) rfl ?_
  intro ι U hne hU
  go_big_quiet_op
  clear hU hne U ι
  show wpAnyM _ _ _ _ _ _ _ _ _
  refine mix_quiet (Keeps.rx (w.heap.size + 2) none) 9 rfl (by kernel_rfl) rfl ?_
  intro ι U hne hU
  go_big_quiet_op
  clear hU hne U ι
  show wpAnyM _ _ _ _ _ _ _ _ _
  refine mix_end (by kernel_rfl) ?_
  clear HSZ
  have x0 := z1.cell 0 rfl
  have x1 := z1.cell 1 rfl
  have x2 := z1.cell 2 rfl
  have x3 := z1.cell 3 rfl
  have x4 := z1.cell 4 rfl
  have x5 := z1.cell 5 rfl
  have x6 := z1.cell 6 rfl
  have x7 := z1.cell 7 rfl
  have y0 := z2.cell 0 rfl
  have y1 := z2.cell 1 rfl
  have y2 := z2.cell 2 rfl
  have xl := z1.lt
  have yl := z2.lt
  rcases HRc.out with rfl | rfl | rfl
  ·
    rcases HRd.out with rfl | rfl | rfl
    ·
      have HM2 := Lib.hid (fun w => HM.out true false w)
      have he : mayZ ⟨⟨k, n, s⟩, ⟨k', n', s'⟩, nu, ma⟩ ⟨k2, n2, s2⟩ true false = ⟨b0, b1, b2⟩ := by rw [← HE.out]; simp
      rw [he] at HM2
      clear he HE HM
      simp only [Zn.val, V.val, Tri3.val] at HM2
      go_wp2_with (first | (at_make; refine Stop.un ?_) | (at_builtin; refine Stop.un ?_) | (with_reducible refine Stop.conv 40 9 ?_) | (with_reducible refine Stop.conv 9 40 ?_))
      refine (HM2.out _).mono ?_
      rintro e wq ⟨rfl, bq⟩
      replace z3 := At.mono z3 bq
      replace BB := Below.next BB bq
      clear bq
      have u0 := z3.cell 0 rfl
      have uf0 := z3.free 0
      have u1 := z3.cell 1 rfl
      have uf1 := z3.free 1
      have u2 := z3.cell 2 rfl
      have uf2 := z3.free 2
      have ul := z3.lt
      go_wp2_with (first | (at_make; refine Stop.un ?_) | (at_builtin; refine Stop.un ?_) | (with_reducible refine Stop.conv 40 9 ?_) | (with_reducible refine Stop.conv 9 40 ?_))
      have RQ := z3.set3 (.bool b0) (.bool b1) (.bool b2)
      have rq0 := RQ.cell 0 rfl
      have rq1 := RQ.cell 1 rfl
      have rq2 := RQ.cell 2 rfl
      have rql := RQ.lt
      exact bodyPost_ret (v := .agg #[.bool b0, .bool b1, .bool b2]) (by simp [results, Try.results16, go_sem, rq0, rq1, rq2]) rfl ⟨rfl, below_set3 BB _ _ _  (by omega)⟩
    ·
      have HM2 := Lib.hid (fun w => HM.out true false w)
      have he : mayZ ⟨⟨k, n, s⟩, ⟨k', n', s'⟩, nu, ma⟩ ⟨k2, n2, s2⟩ true false = ⟨b0, b1, b2⟩ := by rw [← HE.out]; simp
      rw [he] at HM2
      clear he HE HM
      simp only [Zn.val, V.val, Tri3.val] at HM2
      go_wp2_with (first | (at_make; refine Stop.un ?_) | (at_builtin; refine Stop.un ?_) | (with_reducible refine Stop.conv 40 9 ?_) | (with_reducible refine Stop.conv 9 40 ?_))
      refine (HM2.out _).mono ?_
      rintro e wq ⟨rfl, bq⟩
      replace z3 := At.mono z3 bq
      replace BB := Below.next BB bq
      clear bq
      have u0 := z3.cell 0 rfl
      have uf0 := z3.free 0
      have u1 := z3.cell 1 rfl
      have uf1 := z3.free 1
      have u2 := z3.cell 2 rfl
      have uf2 := z3.free 2
      have ul := z3.lt
      go_wp2_with (first | (at_make; refine Stop.un ?_) | (at_builtin; refine Stop.un ?_) | (with_reducible refine Stop.conv 40 9 ?_) | (with_reducible refine Stop.conv 9 40 ?_))
      have RQ := z3.set3 (.bool b0) (.bool b1) (.bool b2)
      have rq0 := RQ.cell 0 rfl
      have rq1 := RQ.cell 1 rfl
      have rq2 := RQ.cell 2 rfl
      have rql := RQ.lt
      exact bodyPost_ret (v := .agg #[.bool b0, .bool b1, .bool b2]) (by simp [results, Try.results16, go_sem, rq0, rq1, rq2]) rfl ⟨rfl, below_set3 BB _ _ _  (by omega)⟩
    ·
      have HM2 := Lib.hid (fun w => HM.out true false w)
      have he : mayZ ⟨⟨k, n, s⟩, ⟨k', n', s'⟩, nu, ma⟩ ⟨k2, n2, s2⟩ true false = ⟨b0, b1, b2⟩ := by rw [← HE.out]; simp
      rw [he] at HM2
      clear he HE HM
      simp only [Zn.val, V.val, Tri3.val] at HM2
      go_wp2_with (first | (at_make; refine Stop.un ?_) | (at_builtin; refine Stop.un ?_) | (with_reducible refine Stop.conv 40 9 ?_) | (with_reducible refine Stop.conv 9 40 ?_))
      refine (HM2.out _).mono ?_
      rintro e wq ⟨rfl, bq⟩
      replace z3 := At.mono z3 bq
      replace BB := Below.next BB bq
      clear bq
      have u0 := z3.cell 0 rfl
      have uf0 := z3.free 0
      have u1 := z3.cell 1 rfl
      have uf1 := z3.free 1
      have u2 := z3.cell 2 rfl
      have uf2 := z3.free 2
      have ul := z3.lt
      go_wp2_with (first | (at_make; refine Stop.un ?_) | (at_builtin; refine Stop.un ?_) | (with_reducible refine Stop.conv 40 9 ?_) | (with_reducible refine Stop.conv 9 40 ?_))
      have RQ := z3.set3 (.bool b0) (.bool b1) (.bool b2)
      have rq0 := RQ.cell 0 rfl
      have rq1 := RQ.cell 1 rfl
      have rq2 := RQ.cell 2 rfl
      have rql := RQ.lt
      exact bodyPost_ret (v := .agg #[.bool b0, .bool b1, .bool b2]) (by simp [results, Try.results16, go_sem, rq0, rq1, rq2]) rfl ⟨rfl, below_set3 BB _ _ _  (by omega)⟩
  ·
    rcases HRd.out with rfl | rfl | rfl
    ·
      have HM2 := Lib.hid (fun w => HM.out true true w)
      have he : mayZ ⟨⟨k, n, s⟩, ⟨k', n', s'⟩, nu, ma⟩ ⟨k2, n2, s2⟩ true true = ⟨b0, b1, b2⟩ := by rw [← HE.out]; simp
      rw [he] at HM2
      clear he HE HM
      simp only [Zn.val, V.val, Tri3.val] at HM2
      go_wp2_with (first | (at_make; refine Stop.un ?_) | (at_builtin; refine Stop.un ?_) | (with_reducible refine Stop.conv 40 9 ?_) | (with_reducible refine Stop.conv 9 40 ?_))
      refine (HM2.out _).mono ?_
      rintro e wq ⟨rfl, bq⟩
      replace z3 := At.mono z3 bq
      replace BB := Below.next BB bq
      clear bq
      have u0 := z3.cell 0 rfl
      have uf0 := z3.free 0
      have u1 := z3.cell 1 rfl
      have uf1 := z3.free 1
      have u2 := z3.cell 2 rfl
      have uf2 := z3.free 2
      have ul := z3.lt
      go_wp2_with (first | (at_make; refine Stop.un ?_) | (at_builtin; refine Stop.un ?_) | (with_reducible refine Stop.conv 40 9 ?_) | (with_reducible refine Stop.conv 9 40 ?_))
      have RQ := z3.set3 (.bool b0) (.bool b1) (.bool b2)
      have rq0 := RQ.cell 0 rfl
      have rq1 := RQ.cell 1 rfl
      have rq2 := RQ.cell 2 rfl
      have rql := RQ.lt
      exact bodyPost_ret (v := .agg #[.bool b0, .bool b1, .bool b2]) (by simp [results, Try.results16, go_sem, rq0, rq1, rq2]) rfl ⟨rfl, below_set3 BB _ _ _  (by omega)⟩
    ·
      have HM2 := Lib.hid (fun w => HM.out false true w)
      have he : mayZ ⟨⟨k, n, s⟩, ⟨k', n', s'⟩, nu, ma⟩ ⟨k2, n2, s2⟩ false true = ⟨b0, b1, b2⟩ := by rw [← HE.out]; simp
      rw [he] at HM2
      clear he HE HM
      simp only [Zn.val, V.val, Tri3.val] at HM2
      go_wp2_with (first | (at_make; refine Stop.un ?_) | (at_builtin; refine Stop.un ?_) | (with_reducible refine Stop.conv 40 9 ?_) | (with_reducible refine Stop.conv 9 40 ?_))
      refine (HM2.out _).mono ?_
      rintro e wq ⟨rfl, bq⟩
      replace z3 := At.mono z3 bq
      replace BB := Below.next BB bq
      clear bq
      have u0 := z3.cell 0 rfl
      have uf0 := z3.free 0
      have u1 := z3.cell 1 rfl
      have uf1 := z3.free 1
      have u2 := z3.cell 2 rfl
      have uf2 := z3.free 2
      have ul := z3.lt
      go_wp2_with (first | (at_make; refine Stop.un ?_) | (at_builtin; refine Stop.un ?_) | (with_reducible refine Stop.conv 40 9 ?_) | (with_reducible refine Stop.conv 9 40 ?_))
      have RQ := z3.set3 (.bool b0) (.bool b1) (.bool b2)
      have rq0 := RQ.cell 0 rfl
      have rq1 := RQ.cell 1 rfl
      have rq2 := RQ.cell 2 rfl
      have rql := RQ.lt
      exact bodyPost_ret (v := .agg #[.bool b0, .bool b1, .bool b2]) (by simp [results, Try.results16, go_sem, rq0, rq1, rq2]) rfl ⟨rfl, below_set3 BB _ _ _  (by omega)⟩
    ·
      have HM2 := Lib.hid (fun w => HM.out true false w)
      have he : mayZ ⟨⟨k, n, s⟩, ⟨k', n', s'⟩, nu, ma⟩ ⟨k2, n2, s2⟩ true false = ⟨b0, b1, b2⟩ := by rw [← HE.out]; simp
      rw [he] at HM2
      clear he HE HM
      simp only [Zn.val, V.val, Tri3.val] at HM2
      go_wp2_with (first | (at_make; refine Stop.un ?_) | (at_builtin; refine Stop.un ?_) | (with_reducible refine Stop.conv 40 9 ?_) | (with_reducible refine Stop.conv 9 40 ?_))
      refine (HM2.out _).mono ?_
      rintro e wq ⟨rfl, bq⟩
      replace z3 := At.mono z3 bq
      replace BB := Below.next BB bq
      clear bq
      have u0 := z3.cell 0 rfl
      have uf0 := z3.free 0
      have u1 := z3.cell 1 rfl
      have uf1 := z3.free 1
      have u2 := z3.cell 2 rfl
      have uf2 := z3.free 2
      have ul := z3.lt
      go_wp2_with (first | (at_make; refine Stop.un ?_) | (at_builtin; refine Stop.un ?_) | (with_reducible refine Stop.conv 40 9 ?_) | (with_reducible refine Stop.conv 9 40 ?_))
      have RQ := z3.set3 (.bool b0) (.bool b1) (.bool b2)
      have rq0 := RQ.cell 0 rfl
      have rq1 := RQ.cell 1 rfl
      have rq2 := RQ.cell 2 rfl
      have rql := RQ.lt
      exact bodyPost_ret (v := .agg #[.bool b0, .bool b1, .bool b2]) (by simp [results, Try.results16, go_sem, rq0, rq1, rq2]) rfl ⟨rfl, below_set3 BB _ _ _  (by omega)⟩
  ·
    rcases HRd.out with rfl | rfl | rfl
    ·
      have HM2 := Lib.hid (fun w => HM.out true true w)
      have he : mayZ ⟨⟨k, n, s⟩, ⟨k', n', s'⟩, nu, ma⟩ ⟨k2, n2, s2⟩ true true = ⟨b0, b1, b2⟩ := by rw [← HE.out]; simp
      rw [he] at HM2
      clear he HE HM
      simp only [Zn.val, V.val, Tri3.val] at HM2
      go_wp2_with (first | (at_make; refine Stop.un ?_) | (at_builtin; refine Stop.un ?_) | (with_reducible refine Stop.conv 40 9 ?_) | (with_reducible refine Stop.conv 9 40 ?_))
      refine (HM2.out _).mono ?_
      rintro e wq ⟨rfl, bq⟩
      replace z3 := At.mono z3 bq
      replace BB := Below.next BB bq
      clear bq
      have u0 := z3.cell 0 rfl
      have uf0 := z3.free 0
      have u1 := z3.cell 1 rfl
      have uf1 := z3.free 1
      have u2 := z3.cell 2 rfl
      have uf2 := z3.free 2
      have ul := z3.lt
      go_wp2_with (first | (at_make; refine Stop.un ?_) | (at_builtin; refine Stop.un ?_) | (with_reducible refine Stop.conv 40 9 ?_) | (with_reducible refine Stop.conv 9 40 ?_))
      have RQ := z3.set3 (.bool b0) (.bool b1) (.bool b2)
      have rq0 := RQ.cell 0 rfl
      have rq1 := RQ.cell 1 rfl
      have rq2 := RQ.cell 2 rfl
      have rql := RQ.lt
      exact bodyPost_ret (v := .agg #[.bool b0, .bool b1, .bool b2]) (by simp [results, Try.results16, go_sem, rq0, rq1, rq2]) rfl ⟨rfl, below_set3 BB _ _ _  (by omega)⟩
    ·
      have HM2 := Lib.hid (fun w => HM.out true true w)
      have he : mayZ ⟨⟨k, n, s⟩, ⟨k', n', s'⟩, nu, ma⟩ ⟨k2, n2, s2⟩ true true = ⟨b0, b1, b2⟩ := by rw [← HE.out]; simp
      rw [he] at HM2
      clear he HE HM
      simp only [Zn.val, V.val, Tri3.val] at HM2
      go_wp2_with (first | (at_make; refine Stop.un ?_) | (at_builtin; refine Stop.un ?_) | (with_reducible refine Stop.conv 40 9 ?_) | (with_reducible refine Stop.conv 9 40 ?_))
      refine (HM2.out _).mono ?_
      rintro e wq ⟨rfl, bq⟩
      replace z3 := At.mono z3 bq
      replace BB := Below.next BB bq
      clear bq
      have u0 := z3.cell 0 rfl
      have uf0 := z3.free 0
      have u1 := z3.cell 1 rfl
      have uf1 := z3.free 1
      have u2 := z3.cell 2 rfl
      have uf2 := z3.free 2
      have ul := z3.lt
      go_wp2_with (first | (at_make; refine Stop.un ?_) | (at_builtin; refine Stop.un ?_) | (with_reducible refine Stop.conv 40 9 ?_) | (with_reducible refine Stop.conv 9 40 ?_))
      have RQ := z3.set3 (.bool b0) (.bool b1) (.bool b2)
      have rq0 := RQ.cell 0 rfl
      have rq1 := RQ.cell 1 rfl
      have rq2 := RQ.cell 2 rfl
      have rql := RQ.lt
      exact bodyPost_ret (v := .agg #[.bool b0, .bool b1, .bool b2]) (by simp [results, Try.results16, go_sem, rq0, rq1, rq2]) rfl ⟨rfl, below_set3 BB _ _ _  (by omega)⟩
    ·
      have HM2 := Lib.hid (fun w => HM.out true false w)
      have he : mayZ ⟨⟨k, n, s⟩, ⟨k', n', s'⟩, nu, ma⟩ ⟨k2, n2, s2⟩ true false = ⟨b0, b1, b2⟩ := by rw [← HE.out]; simp
      rw [he] at HM2
      clear he HE HM
      simp only [Zn.val, V.val, Tri3.val] at HM2
      go_wp2_with (first | (at_make; refine Stop.un ?_) | (at_builtin; refine Stop.un ?_) | (with_reducible refine Stop.conv 40 9 ?_) | (with_reducible refine Stop.conv 9 40 ?_))
      refine (HM2.out _).mono ?_
      rintro e wq ⟨rfl, bq⟩
      replace z3 := At.mono z3 bq
      replace BB := Below.next BB bq
      clear bq
      have u0 := z3.cell 0 rfl
      have uf0 := z3.free 0
      have u1 := z3.cell 1 rfl
      have uf1 := z3.free 1
      have u2 := z3.cell 2 rfl
      have uf2 := z3.free 2
      have ul := z3.lt
      go_wp2_with (first | (at_make; refine Stop.un ?_) | (at_builtin; refine Stop.un ?_) | (with_reducible refine Stop.conv 40 9 ?_) | (with_reducible refine Stop.conv 9 40 ?_))
      have RQ := z3.set3 (.bool b0) (.bool b1) (.bool b2)
      have rq0 := RQ.cell 0 rfl
      have rq1 := RQ.cell 1 rfl
      have rq2 := RQ.cell 2 rfl
      have rql := RQ.lt
      exact bodyPost_ret (v := .agg #[.bool b0, .bool b1, .bool b2]) (by simp [results, Try.results16, go_sem, rq0, rq1, rq2]) rfl ⟨rfl, below_set3 BB _ _ _  (by omega)⟩
set_option maxHeartbeats 4000000 in
theorem zless_any (z : Zn) (v : V) (w : World) : Calls Try.prog 18 #[z.val, v.val] w (fun e w' => e = .returned (lessZ z v).val ∧ Below w.heap.size w w') := by
  obtain ⟨⟨k, n, s⟩, ⟨k', n', s'⟩, nu, ma⟩ := z
  obtain ⟨k2, n2, s2⟩ := v
  simp only [Zn.val, V.val]
  generalize he : lessZ ⟨⟨k, n, s⟩, ⟨k', n', s'⟩, nu, ma⟩ ⟨k2, n2, s2⟩ = t
  obtain ⟨b0, b1, b2⟩ := t
  have HE := Lib.hid he
  clear he
  simp only [Tri3.val]
  have HM := Lib.hid (fun no yes w => may_any ⟨⟨k, n, s⟩, ⟨k', n', s'⟩, nu, ma⟩ ⟨k2, n2, s2⟩ no yes w)
  have HCc := Lib.hid (fun w => compare_x k' n' s' k2 n2 s2 w)
  have HRc := Lib.hid (cmpV_range ⟨k', n', s'⟩ ⟨k2, n2, s2⟩)
  have HCd := Lib.hid (fun w => compare_x k n s k2 n2 s2 w)
  have HRd := Lib.hid (cmpV_range ⟨k, n, s⟩ ⟨k2, n2, s2⟩)
  unfold lessZ at HE
  simp only at HE
  generalize cmpV ⟨k', n', s'⟩ ⟨k2, n2, s2⟩ = c at HCc HRc HE
  generalize cmpV ⟨k, n, s⟩ ⟨k2, n2, s2⟩ = d at HCd HRd HE
  have HM2 := Lib.hid (fun w => HM.out (decide (0 ≤ c)) (decide (d < 0)) w)
  rw [HE.out] at HM2
  simp only [Zn.val, V.val, Tri3.val] at HM2
  clear HM
  go_enter Try.func18, Try.ntmps18
  go_upto_region 1 with fail
  have z1 : At (((w.alloc (.cells #[.int .u8 k, .int .i64 n, .string s, .int .u8 k', .int .i64 n', .string s', .int .i64 nu, .int .i64 ma] 26)).alloc (.cells #[.int .u8 k2, .int .i64 n2, .string s2] 24)).alloc (.cells #[.bool false, .bool false, .bool false] 34)) (w.heap.size) #[.int .u8 k, .int .i64 n, .string s, .int .u8 k', .int .i64 n', .string s', .int .i64 nu, .int .i64 ma] 26 := by simpa only [World.size_alloc, Nat.add_assoc, Nat.reduceAdd] using ((At.new w #[.int .u8 k, .int .i64 n, .string s, .int .u8 k', .int .i64 n', .string s', .int .i64 nu, .int .i64 ma] 26).alloc (.cells #[.int .u8 k2, .int .i64 n2, .string s2] 24)).alloc (.cells #[.bool false, .bool false, .bool false] 34)
  have z2 : At (((w.alloc (.cells #[.int .u8 k, .int .i64 n, .string s, .int .u8 k', .int .i64 n', .string s', .int .i64 nu, .int .i64 ma] 26)).alloc (.cells #[.int .u8 k2, .int .i64 n2, .string s2] 24)).alloc (.cells #[.bool false, .bool false, .bool false] 34)) (w.heap.size + 1) #[.int .u8 k2, .int .i64 n2, .string s2] 24 := by simpa only [World.size_alloc, Nat.add_assoc, Nat.reduceAdd] using (At.new (w.alloc (.cells #[.int .u8 k, .int .i64 n, .string s, .int .u8 k', .int .i64 n', .string s', .int .i64 nu, .int .i64 ma] 26)) #[.int .u8 k2, .int .i64 n2, .string s2] 24).alloc (.cells #[.bool false, .bool false, .bool false] 34)
  have z3 : At (((w.alloc (.cells #[.int .u8 k, .int .i64 n, .string s, .int .u8 k', .int .i64 n', .string s', .int .i64 nu, .int .i64 ma] 26)).alloc (.cells #[.int .u8 k2, .int .i64 n2, .string s2] 24)).alloc (.cells #[.bool false, .bool false, .bool false] 34)) (w.heap.size + 2) #[.bool false, .bool false, .bool false] 34 := by simpa only [World.size_alloc, Nat.add_assoc, Nat.reduceAdd] using At.new ((w.alloc (.cells #[.int .u8 k, .int .i64 n, .string s, .int .u8 k', .int .i64 n', .string s', .int .i64 nu, .int .i64 ma] 26)).alloc (.cells #[.int .u8 k2, .int .i64 n2, .string s2] 24)) #[.bool false, .bool false, .bool false] 34
  have BB : Below w.heap.size w (((w.alloc (.cells #[.int .u8 k, .int .i64 n, .string s, .int .u8 k', .int .i64 n', .string s', .int .i64 nu, .int .i64 ma] 26)).alloc (.cells #[.int .u8 k2, .int .i64 n2, .string s2] 24)).alloc (.cells #[.bool false, .bool false, .bool false] 34)) := Below.alloc (Below.alloc (Below.alloc (Below.refl w.heap.size w) (by (try simp only [World.size_alloc]) <;> omega) (.cells #[.int .u8 k, .int .i64 n, .string s, .int .u8 k', .int .i64 n', .string s', .int .i64 nu, .int .i64 ma] 26)) (by (try simp only [World.size_alloc]) <;> omega) (.cells #[.int .u8 k2, .int .i64 n2, .string s2] 24)) (by (try simp only [World.size_alloc]) <;> omega) (.cells #[.bool false, .bool false, .bool false] 34)
  have z1_b : w.heap.size < w.heap.size + 2 := by omega
  have z2_b : w.heap.size + 1 < w.heap.size + 2 := by omega
  have HSZ : Hid (w.heap.size + 2 ≤ (((w.alloc (.cells #[.int .u8 k, .int .i64 n, .string s, .int .u8 k', .int .i64 n', .string s', .int .i64 nu, .int .i64 ma] 26)).alloc (.cells #[.int .u8 k2, .int .i64 n2, .string s2] 24)).alloc (.cells #[.bool false, .bool false, .bool false] 34)).heap.size) := Lib.hid (by (try simp only [World.size_alloc]) <;> omega)
  refine mix_startX (w.heap.size + 2) none 14 rfl (by kernel_rfl) ?_
  intro xq hxq
  replace z1 := At.mono z1 hxq
  replace z2 := At.mono z2 hxq
  replace z3 := At.mono z3 hxq
  replace BB := Below.next BB hxq
  replace HSZ := Lib.hid (Nat.le_trans (Hid.out HSZ) (Below.size hxq))
  clear hxq
  refine mix_quiet (Keeps.rx (w.heap.size + 2) none) 0 rfl (by kernel_rfl) rfl ?_
  intro ι U hne hU
  have hcw0 := fun ii => (RX.at (hU ii) z1 z1_b).cell 0 rfl
  have hcw1 := fun ii => (RX.at (hU ii) z1 z1_b).cell 1 rfl
  have hcw2 := fun ii => (RX.at (hU ii) z1 z1_b).cell 2 rfl
  have hcw3 := fun ii => (RX.at (hU ii) z1 z1_b).cell 3 rfl
  have hcw4 := fun ii => (RX.at (hU ii) z1 z1_b).cell 4 rfl
  have hcw5 := fun ii => (RX.at (hU ii) z1 z1_b).cell 5 rfl
  have hcw6 := fun ii => (RX.at (hU ii) z1 z1_b).cell 6 rfl
  have hcw7 := fun ii => (RX.at (hU ii) z1 z1_b).cell 7 rfl
  have hcw8 := fun ii => (RX.at (hU ii) z2 z2_b).cell 0 rfl
  have hcw9 := fun ii => (RX.at (hU ii) z2 z2_b).cell 1 rfl
  have hcw10 := fun ii => (RX.at (hU ii) z2 z2_b).cell 2 rfl
  go_big_quiet_op
  clear hU hne hcw0 hcw1 hcw2 hcw3 hcw4 hcw5 hcw6 hcw7 hcw8 hcw9 hcw10 U ι
  show wpAnyM _ _ _ _ _ _ _ _ _
  refine mix_quiet (Keeps.rx (w.heap.size + 2) none) 1 rfl (by kernel_rfl) rfl ?_
  intro ι U hne hU
  have hcw0 := fun ii => (RX.at (hU ii) z1 z1_b).cell 0 rfl
  have hcw1 := fun ii => (RX.at (hU ii) z1 z1_b).cell 1 rfl
  have hcw2 := fun ii => (RX.at (hU ii) z1 z1_b).cell 2 rfl
  have hcw3 := fun ii => (RX.at (hU ii) z1 z1_b).cell 3 rfl
  have hcw4 := fun ii => (RX.at (hU ii) z1 z1_b).cell 4 rfl
  have hcw5 := fun ii => (RX.at (hU ii) z1 z1_b).cell 5 rfl
  have hcw6 := fun ii => (RX.at (hU ii) z1 z1_b).cell 6 rfl
  have hcw7 := fun ii => (RX.at (hU ii) z1 z1_b).cell 7 rfl
  have hcw8 := fun ii => (RX.at (hU ii) z2 z2_b).cell 0 rfl
  have hcw9 := fun ii => (RX.at (hU ii) z2 z2_b).cell 1 rfl
  have hcw10 := fun ii => (RX.at (hU ii) z2 z2_b).cell 2 rfl
  go_big_quiet_op
  clear hU hne hcw0 hcw1 hcw2 hcw3 hcw4 hcw5 hcw6 hcw7 hcw8 hcw9 hcw10 U ι
  show wpAnyM _ _ _ _ _ _ _ _ _
  refine mix_quiet (Keeps.rx (w.heap.size + 2) none) 2 rfl (by kernel_rfl) rfl ?_
  intro ι U hne hU
  go_big_quiet_op
  clear hU hne U ι
  show wpAnyM _ _ _ _ _ _ _ _ _
  refine mix_quiet (Keeps.rx (w.heap.size + 2) none) 3 rfl (by kernel_rfl) rfl ?_
  intro ι U hne hU
  have hcw0 := fun ii => (RX.at (hU ii) z1 z1_b).cell 0 rfl
  have hcw1 := fun ii => (RX.at (hU ii) z1 z1_b).cell 1 rfl
  have hcw2 := fun ii => (RX.at (hU ii) z1 z1_b).cell 2 rfl
  have hcw3 := fun ii => (RX.at (hU ii) z1 z1_b).cell 3 rfl
  have hcw4 := fun ii => (RX.at (hU ii) z1 z1_b).cell 4 rfl
  have hcw5 := fun ii => (RX.at (hU ii) z1 z1_b).cell 5 rfl
  have hcw6 := fun ii => (RX.at (hU ii) z1 z1_b).cell 6 rfl
  have hcw7 := fun ii => (RX.at (hU ii) z1 z1_b).cell 7 rfl
  have hcw8 := fun ii => (RX.at (hU ii) z2 z2_b).cell 0 rfl
  have hcw9 := fun ii => (RX.at (hU ii) z2 z2_b).cell 1 rfl
  have hcw10 := fun ii => (RX.at (hU ii) z2 z2_b).cell 2 rfl
  go_big_quiet_op
  clear hU hne hcw0 hcw1 hcw2 hcw3 hcw4 hcw5 hcw6 hcw7 hcw8 hcw9 hcw10 U ι
  show wpAnyM _ _ _ _ _ _ _ _ _
  refine mix_quiet (Keeps.rx (w.heap.size + 2) none) 4 rfl (by kernel_rfl) rfl ?_
  intro ι U hne hU
  have hcw0 := fun ii => (RX.at (hU ii) z1 z1_b).cell 0 rfl
  have hcw1 := fun ii => (RX.at (hU ii) z1 z1_b).cell 1 rfl
  have hcw2 := fun ii => (RX.at (hU ii) z1 z1_b).cell 2 rfl
  have hcw3 := fun ii => (RX.at (hU ii) z1 z1_b).cell 3 rfl
  have hcw4 := fun ii => (RX.at (hU ii) z1 z1_b).cell 4 rfl
  have hcw5 := fun ii => (RX.at (hU ii) z1 z1_b).cell 5 rfl
  have hcw6 := fun ii => (RX.at (hU ii) z1 z1_b).cell 6 rfl
  have hcw7 := fun ii => (RX.at (hU ii) z1 z1_b).cell 7 rfl
  have hcw8 := fun ii => (RX.at (hU ii) z2 z2_b).cell 0 rfl
  have hcw9 := fun ii => (RX.at (hU ii) z2 z2_b).cell 1 rfl
  have hcw10 := fun ii => (RX.at (hU ii) z2 z2_b).cell 2 rfl
  go_big_quiet_op
  clear hU hne hcw0 hcw1 hcw2 hcw3 hcw4 hcw5 hcw6 hcw7 hcw8 hcw9 hcw10 U ι
  show wpAnyM _ _ _ _ _ _ _ _ _
  refine mix_quiet (Keeps.rx (w.heap.size + 2) none) 7 rfl (by kernel_rfl) rfl ?_
  intro ι U hne hU
  go_big_quiet_op
  clear hU hne U ι
  show wpAnyM _ _ _ _ _ _ _ _ _
  refine mix_quiet (Keeps.rx (w.heap.size + 2) none) 8 rfl (by kernel_rfl) rfl ?_
  intro ι U hne hU
  have hcw0 := fun ii => (RX.at (hU ii) z1 z1_b).cell 0 rfl
  have hcw1 := fun ii => (RX.at (hU ii) z1 z1_b).cell 1 rfl
  have hcw2 := fun ii => (RX.at (hU ii) z1 z1_b).cell 2 rfl
  have hcw3 := fun ii => (RX.at (hU ii) z1 z1_b).cell 3 rfl
  have hcw4 := fun ii => (RX.at (hU ii) z1 z1_b).cell 4 rfl
  have hcw5 := fun ii => (RX.at (hU ii) z1 z1_b).cell 5 rfl
  have hcw6 := fun ii => (RX.at (hU ii) z1 z1_b).cell 6 rfl
  have hcw7 := fun ii => (RX.at (hU ii) z1 z1_b).cell 7 rfl
  have hcw8 := fun ii => (RX.at (hU ii) z2 z2_b).cell 0 rfl
  have hcw9 := fun ii => (RX.at (hU ii) z2 z2_b).cell 1 rfl
  have hcw10 := fun ii => (RX.at (hU ii) z2 z2_b).cell 2 rfl
  go_big_quiet_op
  clear hU hne hcw0 hcw1 hcw2 hcw3 hcw4 hcw5 hcw6 hcw7 hcw8 hcw9 hcw10 U ι
  show wpAnyM _ _ _ _ _ _ _ _ _
  refine mix_quiet (Keeps.rx (w.heap.size + 2) none) 9 rfl (by kernel_rfl) rfl ?_
  intro ι U hne hU
  have hcw0 := fun ii => (RX.at (hU ii) z1 z1_b).cell 0 rfl
  have hcw1 := fun ii => (RX.at (hU ii) z1 z1_b).cell 1 rfl
  have hcw2 := fun ii => (RX.at (hU ii) z1 z1_b).cell 2 rfl
  have hcw3 := fun ii => (RX.at (hU ii) z1 z1_b).cell 3 rfl
  have hcw4 := fun ii => (RX.at (hU ii) z1 z1_b).cell 4 rfl
  have hcw5 := fun ii => (RX.at (hU ii) z1 z1_b).cell 5 rfl
  have hcw6 := fun ii => (RX.at (hU ii) z1 z1_b).cell 6 rfl
  have hcw7 := fun ii => (RX.at (hU ii) z1 z1_b).cell 7 rfl
  have hcw8 := fun ii => (RX.at (hU ii) z2 z2_b).cell 0 rfl
  have hcw9 := fun ii => (RX.at (hU ii) z2 z2_b).cell 1 rfl
  have hcw10 := fun ii => (RX.at (hU ii) z2 z2_b).cell 2 rfl
  go_big_quiet_op
  clear hU hne hcw0 hcw1 hcw2 hcw3 hcw4 hcw5 hcw6 hcw7 hcw8 hcw9 hcw10 U ι
  show wpAnyM _ _ _ _ _ _ _ _ _
  refine mix_any 5 rfl (by kernel_rfl) rfl ?_
  go_wp2_with (first | (at_make; refine Stop.un ?_) | (at_builtin; refine Stop.un ?_) | (with_reducible refine Stop.conv 40 9 ?_) | (with_reducible refine Stop.conv 9 40 ?_))
  refine (HCc.out _).mono ?_
  rintro e wq3 ⟨rfl, bq3⟩
  go_wp2_with (first | (at_make; refine Stop.un ?_) | (at_builtin; refine Stop.un ?_) | (with_reducible refine Stop.conv 40 9 ?_) | (with_reducible refine Stop.conv 9 40 ?_))
  refine MixPost.mk (RX.ext bq3 (Hid.out HSZ)) ?_
  replace z1 := At.mono z1 bq3
  replace z2 := At.mono z2 bq3
  replace z3 := At.mono z3 bq3
  replace BB := Below.next BB bq3
  replace HSZ := Lib.hid (Nat.le_trans (Hid.out HSZ) (Below.size bq3))
  clear bq3
  refine mix_quiet (Keeps.rx (w.heap.size + 2) none) 6 rfl (by kernel_rfl) rfl ?_
  intro ι U hne hU
  go_big_quiet_op
  clear hU hne U ι
  show wpAnyM _ _ _ _ _ _ _ _ _
  refine mix_any 10 rfl (by kernel_rfl) rfl ?_
  go_wp2_with (first | (at_make; refine Stop.un ?_) | (at_builtin; refine Stop.un ?_) | (with_reducible refine Stop.conv 40 9 ?_) | (with_reducible refine Stop.conv 9 40 ?_))
  refine (HCd.out _).mono ?_
  rintro e wq4 ⟨rfl, bq4⟩
  go_wp2_with (first | (at_make; refine Stop.un ?_) | (at_builtin; refine Stop.un ?_) | (with_reducible refine Stop.conv 40 9 ?_) | (with_reducible refine Stop.conv 9 40 ?_))
  refine MixPost.mk (RX.ext bq4 (Hid.out HSZ)) ?_
  replace z1 := At.mono z1 bq4
  replace z2 := At.mono z2 bq4
  replace z3 := At.mono z3 bq4
  replace BB := Below.next BB bq4
  replace HSZ := Lib.hid (Nat.le_trans (Hid.out HSZ) (Below.size bq4))
  clear bq4
  refine mix_quiet (Keeps.rx (w.heap.size + 2) none) 11 rfl (by kernel_rfl) rfl ?_
  intro ι U hne hU
  go_big_quiet_op
  clear hU hne U ι
  show wpAnyM _ _ _ _ _ _ _ _ _
  refine mix_any 12 rfl (by kernel_rfl) rfl ?_
  go_wp2_with (first | (at_make; refine Stop.un ?_) | (at_builtin; refine Stop.un ?_) | (with_reducible refine Stop.conv 40 9 ?_) | (with_reducible refine Stop.conv 9 40 ?_))
  refine (HM2.out _).mono ?_
  rintro e wq5 ⟨rfl, bq5⟩
  go_wp2_with (first | (at_make; refine Stop.un ?_) | (at_builtin; refine Stop.un ?_) | (with_reducible refine Stop.conv 40 9 ?_) | (with_reducible refine Stop.conv 9 40 ?_))
  refine MixPost.mk (RX.ext bq5 (Hid.out HSZ)) ?_
  replace z1 := At.mono z1 bq5
  replace z2 := At.mono z2 bq5
  replace z3 := At.mono z3 bq5
  replace BB := Below.next BB bq5
  replace HSZ := Lib.hid (Nat.le_trans (Hid.out HSZ) (Below.size bq5))
  clear bq5
  refine mix_any 13 rfl (by kernel_rfl) rfl ?_
  have fq0 := z3.free 0
  have gq0 := z3.cell 0 rfl
  have fq1 := z3.free 1
  have gq1 := z3.cell 1 rfl
  have fq2 := z3.free 2
  have gq2 := z3.cell 2 rfl
  have lq := z3.lt
  go_wp2_with (first | (at_make; refine Stop.un ?_) | (at_builtin; refine Stop.un ?_) | (with_reducible refine Stop.conv 40 9 ?_) | (with_reducible refine Stop.conv 9 40 ?_))
  refine MixPost.mk (RX.set3 _ _ _ _  (by first | omega | (simp only [Nat.add_assoc] <;> omega))) ?_
  clear lq fq0 gq0 fq1 gq1 fq2 gq2
  refine mix_end (by kernel_rfl) ?_
  clear z1 z2 HSZ
  go_wp2_with (first | (at_make; refine Stop.un ?_) | (at_builtin; refine Stop.un ?_) | (with_reducible refine Stop.conv 40 9 ?_) | (with_reducible refine Stop.conv 9 40 ?_))
  have RQ := z3.set3 (.bool b0) (.bool b1) (.bool b2)
  have rq0 := RQ.cell 0 rfl
  have rq1 := RQ.cell 1 rfl
  have rq2 := RQ.cell 2 rfl
  have rql := RQ.lt
  exact bodyPost_ret (v := .agg #[.bool b0, .bool b1, .bool b2]) (by simp [results, Try.results18, go_sem, rq0, rq1, rq2]) rfl ⟨rfl, below_set3 BB _ _ _  (by omega)⟩
set_option maxHeartbeats 4000000 in
theorem znull_any (z : Zn) (w : World) : Calls Try.prog 20 #[z.val] w (fun e w' => e = .returned (nullZ z).val ∧ Below w.heap.size w w') := by
  obtain ⟨⟨k, n, s⟩, ⟨k', n', s'⟩, nu, ma⟩ := z
  simp only [Zn.val, V.val]
  generalize he : nullZ ⟨⟨k, n, s⟩, ⟨k', n', s'⟩, nu, ma⟩ = t
  obtain ⟨b0, b1, b2⟩ := t
  have HE := Lib.hid he
  clear he
  simp only [Tri3.val]
  have he := HE.out
  simp only [nullZ, Tri3.mk.injEq] at he
  obtain ⟨q0, q1, q2⟩ := he
  subst q0 q1 q2
  clear HE
  go_enter Try.func20, Try.ntmps20
  go_wp2_with (first | (at_make; refine Stop.un ?_) | (at_builtin; refine Stop.un ?_) | (with_reducible refine Stop.conv 40 9 ?_) | (with_reducible refine Stop.conv 9 40 ?_))
  exact bodyPost_ret (v := .agg #[.bool (decide (nu < ma)), .bool false, .bool (decide (0 < nu))]) (by simp [results, Try.results20, go_sem]) rfl ⟨rfl, by repeat' (first | with_reducible exact Below.refl _ _ | refine Below.alloc ?_ (by simp <;> omega) _ | refine Below.setCell ?_ (by simp <;> omega) _)⟩
set_option maxHeartbeats 4000000 in
theorem rnull_any (z : Zn) (w : World) : Calls Try.prog 21 #[z.val] w (fun e w' => e = .returned (nullZ z).val ∧ Below w.heap.size w w') := by
  obtain ⟨⟨k, n, s⟩, ⟨k', n', s'⟩, nu, ma⟩ := z
  simp only [Zn.val, V.val]
  generalize he : nullZ ⟨⟨k, n, s⟩, ⟨k', n', s'⟩, nu, ma⟩ = t
  obtain ⟨b0, b1, b2⟩ := t
  have HE := Lib.hid he
  clear he
  simp only [Tri3.val]
  have he := HE.out
  simp only [nullZ, Tri3.mk.injEq] at he
  obtain ⟨q0, q1, q2⟩ := he
  subst q0 q1 q2
  clear HE
  go_enter Try.func21, Try.ntmps21
  go_wp2_with (first | (at_make; refine Stop.un ?_) | (at_builtin; refine Stop.un ?_) | (with_reducible refine Stop.conv 40 9 ?_) | (with_reducible refine Stop.conv 9 40 ?_))
  exact bodyPost_ret (v := .agg #[.bool (decide (nu < ma)), .bool false, .bool (decide (0 < nu))]) (by simp [results, Try.results21, go_sem]) rfl ⟨rfl, by repeat' (first | with_reducible exact Below.refl _ _ | refine Below.alloc ?_ (by simp <;> omega) _ | refine Below.setCell ?_ (by simp <;> omega) _)⟩
end Go.Proofs.Ytdpmaocbfmgmlaa
