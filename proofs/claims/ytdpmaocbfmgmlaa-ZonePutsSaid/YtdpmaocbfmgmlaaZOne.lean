/- What is known of one value, and of two parts: what the program returns. -/
import Derived.Test.YtdpmaocbfmgmlaaZoneP
import Derived.Test.YtdpmaocbfmgmlaaAt
import Derived.Test.YtdpmaocbfmgmlaaVAt
import Derived.Test.YtdpmaocbfmgmlaaForms
set_option linter.unusedVariables false
set_option linter.unusedSimpArgs false
namespace Go.Proofs.Ytdpmaocbfmgmlaa
open Go.RowKit
def Zn.val (z : Zn) : Value := .agg #[.int .u8 z.lo.k, .int .i64 z.lo.n, .string z.lo.s, .int .u8 z.hi.k, .int .i64 z.hi.n, .string z.hi.s, .int .i64 z.nulls, .int .i64 z.many]
set_option maxHeartbeats 1000000 in
theorem one_any (v : V) (w : World) : Calls Try.prog 32 #[v.val] w (fun e w' => e = .returned (oneZ v).val ∧ Below w.heap.size w w') := by
  unfold oneZ
  by_cases h : v.k = 0
  · rw [if_pos h]
    obtain ⟨k, n, s⟩ := v
    simp only at h
    subst h
    simp only [V.val, Zn.val, V.zero]
    go_enter Try.func32, Try.ntmps32
    go_wp2_with (first | (at_make; refine Stop.un ?_) | (at_builtin; refine Stop.un ?_) | (with_reducible refine Stop.conv 40 9 ?_) | (with_reducible refine Stop.conv 9 40 ?_))
    exact bodyPost_ret (v := .agg #[.int .u8 0, .int .i64 0, .string ByteArray.empty, .int .u8 0, .int .i64 0, .string ByteArray.empty, .int .i64 1, .int .i64 1]) (by simp [results, Try.results32, go_sem]; rfl) rfl ⟨rfl, ((Below.refl _ _).alloc (Nat.le_refl _) _).alloc (by simp <;> omega) _⟩
  · rw [if_neg h]
    obtain ⟨k, n, s⟩ := v
    simp only at h
    simp only [V.val, Zn.val]
    go_enter Try.func32, Try.ntmps32
    go_wp2_with (first | (at_make; refine Stop.un ?_) | (at_builtin; refine Stop.un ?_) | (with_reducible refine Stop.conv 40 9 ?_) | (with_reducible refine Stop.conv 9 40 ?_))
    exact bodyPost_ret (v := .agg #[.int .u8 k, .int .i64 n, .string s, .int .u8 k, .int .i64 n, .string s, .int .i64 0, .int .i64 1]) (by simp [results, Try.results32, go_sem]) rfl ⟨rfl, ((Below.refl _ _).alloc (Nat.le_refl _) _).alloc (by simp <;> omega) _⟩
set_option maxHeartbeats 1000000 in
theorem choose_any (a b : V) (way : Int) (w : World) : Calls Try.prog 33 #[a.val, b.val, .int .i64 way] w (fun e w' => e = .returned (chooseV a b way).val ∧ Below w.heap.size w w') := by
  obtain ⟨k, n, s⟩ := a
  obtain ⟨k', n', s'⟩ := b
  unfold chooseV
  by_cases h : k = 0 ∧ k' = 0
  · obtain ⟨rfl, rfl⟩ := h
    rw [if_pos ⟨rfl, rfl⟩]
    simp only [V.val, V.zero]
    go_enter Try.func33, Try.ntmps33
    go_wp2_with (first | (at_make; refine Stop.un ?_) | (at_builtin; refine Stop.un ?_) | (with_reducible refine Stop.conv 40 9 ?_) | (with_reducible refine Stop.conv 9 40 ?_))
    exact bodyPost_ret (v := .agg #[.int .u8 0, .int .i64 0, .string ByteArray.empty]) (by simp [results, Try.results33, go_sem]; rfl) rfl ⟨rfl, (((Below.refl _ _).alloc (Nat.le_refl _) _).alloc (by simp) _).alloc (by simp <;> omega) _⟩
  · rw [if_neg h]
    by_cases h1 : k = 0
    · subst h1
      have h2 : k' ≠ 0 := fun e => h ⟨rfl, e⟩
      clear h
      rw [if_pos rfl]
      simp only [V.val]
      go_enter Try.func33, Try.ntmps33
      go_wp2_with (first | (at_make; refine Stop.un ?_) | (at_builtin; refine Stop.un ?_) | (with_reducible refine Stop.conv 40 9 ?_) | (with_reducible refine Stop.conv 9 40 ?_))
      exact bodyPost_ret (v := .agg #[.int .u8 k', .int .i64 n', .string s']) (by simp [results, Try.results33, go_sem]) rfl ⟨rfl, (((Below.refl _ _).alloc (Nat.le_refl _) _).alloc (by simp) _).alloc (by simp <;> omega) _⟩
    · rw [if_neg h1]
      clear h
      by_cases h2 : k' = 0
      · subst h2
        rw [if_pos (.inl rfl)]
        simp only [V.val]
        go_enter Try.func33, Try.ntmps33
        go_wp2_with (first | (at_make; refine Stop.un ?_) | (at_builtin; refine Stop.un ?_) | (with_reducible refine Stop.conv 40 9 ?_) | (with_reducible refine Stop.conv 9 40 ?_))
        exact bodyPost_ret (v := .agg #[.int .u8 k, .int .i64 n, .string s]) (by simp [results, Try.results33, go_sem]) rfl ⟨rfl, (((Below.refl _ _).alloc (Nat.le_refl _) _).alloc (by simp) _).alloc (by simp <;> omega) _⟩
      · by_cases hc : cmpV ⟨k, n, s⟩ ⟨k', n', s'⟩ = way
        · rw [if_pos (.inr hc)]
          simp only [V.val]
          have HC := Lib.hid (fun w => compare_x k n s k' n' s' w)
          generalize cmpV ⟨k, n, s⟩ ⟨k', n', s'⟩ = c at HC hc
          subst hc
          
          go_enter Try.func33, Try.ntmps33
          go_wp2_with (first | (at_make; refine Stop.un ?_) | (at_builtin; refine Stop.un ?_) | (with_reducible refine Stop.conv 40 9 ?_) | (with_reducible refine Stop.conv 9 40 ?_))
          refine (HC.out _).mono ?_
          rintro e w1 ⟨rfl, b1⟩
          have z1 := (((At.new w #[.int .u8 k, .int .i64 n, .string s] 24).alloc (.cells #[.int .u8 k', .int .i64 n', .string s'] 24)).alloc (.cells #[.int .u8 0, .int .i64 0, .string ⟨#[]⟩] 24)).mono b1
          have z2 := ((At.new (w.alloc (.cells #[.int .u8 k, .int .i64 n, .string s] 24)) #[.int .u8 k', .int .i64 n', .string s'] 24).alloc (.cells #[.int .u8 0, .int .i64 0, .string ⟨#[]⟩] 24)).mono b1
          have z3 := (At.new ((w.alloc (.cells #[.int .u8 k, .int .i64 n, .string s] 24)).alloc (.cells #[.int .u8 k', .int .i64 n', .string s'] 24)) #[.int .u8 0, .int .i64 0, .string ⟨#[]⟩] 24).mono b1
          have B := ((((Below.refl w.heap.size w).alloc (Nat.le_refl _) _).alloc (by simp) _).alloc (by simp <;> omega) _).next b1
          clear b1
          simp only [World.size_alloc] at z2 z3
          have e0 := z1.cell 0 rfl
          have e1 := z1.cell 1 rfl
          have e2 := z1.cell 2 rfl
          have e3 := z2.cell 0 rfl
          have e4 := z2.cell 1 rfl
          have e5 := z2.cell 2 rfl
          have f0 := z3.free 0
          have f1 := z3.free 1
          have f2 := z3.free 2
          have g0 := z3.cell 0 rfl
          have g1 := z3.cell 1 rfl
          have g2 := z3.cell 2 rfl
          have l1 := z1.lt
          have l2 := z2.lt
          have l3 := z3.lt
          go_wp2_with (first | (at_make; refine Stop.un ?_) | (at_builtin; refine Stop.un ?_) | (with_reducible refine Stop.conv 40 9 ?_) | (with_reducible refine Stop.conv 9 40 ?_))
          have R := ((z3.set 0 (.int .u8 k)).set 1 (.int .i64 n)).set 2 (.string s)
          have r0 := R.cell 0 rfl
          have r1 := R.cell 1 rfl
          have r2 := R.cell 2 rfl
          have r3 := R.lt
          exact bodyPost_ret (v := .agg #[.int .u8 k, .int .i64 n, .string s]) (by simp [results, Try.results33, go_sem, r0, r1, r2]) rfl ⟨rfl, below_put B (by omega) _ _ _⟩
        · rw [if_neg (fun x => x.elim h2 hc)]
          simp only [V.val]
          have HC := Lib.hid (fun w => compare_x k n s k' n' s' w)
          generalize cmpV ⟨k, n, s⟩ ⟨k', n', s'⟩ = c at HC hc
          have hc' : (c == way) = false := by simpa using hc
          clear hc
          go_enter Try.func33, Try.ntmps33
          go_wp2_with (first | (at_make; refine Stop.un ?_) | (at_builtin; refine Stop.un ?_) | (with_reducible refine Stop.conv 40 9 ?_) | (with_reducible refine Stop.conv 9 40 ?_))
          refine (HC.out _).mono ?_
          rintro e w1 ⟨rfl, b1⟩
          have z1 := (((At.new w #[.int .u8 k, .int .i64 n, .string s] 24).alloc (.cells #[.int .u8 k', .int .i64 n', .string s'] 24)).alloc (.cells #[.int .u8 0, .int .i64 0, .string ⟨#[]⟩] 24)).mono b1
          have z2 := ((At.new (w.alloc (.cells #[.int .u8 k, .int .i64 n, .string s] 24)) #[.int .u8 k', .int .i64 n', .string s'] 24).alloc (.cells #[.int .u8 0, .int .i64 0, .string ⟨#[]⟩] 24)).mono b1
          have z3 := (At.new ((w.alloc (.cells #[.int .u8 k, .int .i64 n, .string s] 24)).alloc (.cells #[.int .u8 k', .int .i64 n', .string s'] 24)) #[.int .u8 0, .int .i64 0, .string ⟨#[]⟩] 24).mono b1
          have B := ((((Below.refl w.heap.size w).alloc (Nat.le_refl _) _).alloc (by simp) _).alloc (by simp <;> omega) _).next b1
          clear b1
          simp only [World.size_alloc] at z2 z3
          have e0 := z1.cell 0 rfl
          have e1 := z1.cell 1 rfl
          have e2 := z1.cell 2 rfl
          have e3 := z2.cell 0 rfl
          have e4 := z2.cell 1 rfl
          have e5 := z2.cell 2 rfl
          have f0 := z3.free 0
          have f1 := z3.free 1
          have f2 := z3.free 2
          have g0 := z3.cell 0 rfl
          have g1 := z3.cell 1 rfl
          have g2 := z3.cell 2 rfl
          have l1 := z1.lt
          have l2 := z2.lt
          have l3 := z3.lt
          go_wp2_with (first | (at_make; refine Stop.un ?_) | (at_builtin; refine Stop.un ?_) | (with_reducible refine Stop.conv 40 9 ?_) | (with_reducible refine Stop.conv 9 40 ?_))
          have R := ((z3.set 0 (.int .u8 k')).set 1 (.int .i64 n')).set 2 (.string s')
          have r0 := R.cell 0 rfl
          have r1 := R.cell 1 rfl
          have r2 := R.cell 2 rfl
          have r3 := R.lt
          exact bodyPost_ret (v := .agg #[.int .u8 k', .int .i64 n', .string s']) (by simp [results, Try.results33, go_sem, r0, r1, r2]) rfl ⟨rfl, below_put B (by omega) _ _ _⟩
end Go.Proofs.Ytdpmaocbfmgmlaa
