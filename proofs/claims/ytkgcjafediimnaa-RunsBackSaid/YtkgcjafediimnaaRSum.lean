/- How many numbers runs have. -/
import Derived.Test.YtkgcjafediimnaaRunC
import Derived.Test.YtkgcjafediimnaaMix
import Derived.Test.YtkgcjafediimnaaAt
set_option linter.unusedVariables false
set_option linter.unusedSimpArgs false
namespace Go.Proofs.Ytkgcjafediimnaa
open Go.RowKit
theorem sum1_any (n k : Int) (w : World) : Calls Try.prog 42 #[.agg #[.int .i64 n, .int .i64 k]] w (fun e w' => e = .returned (.bool (decide (k < 1))) ∧ Below w.heap.size w w') := by
  go_enter Try.func42, Try.ntmps42
  go_wp2_with (first | (at_make; refine Stop.un ?_) | (at_builtin; refine Stop.un ?_) | (with_reducible refine Stop.conv 24 9 ?_) | (with_reducible refine Stop.conv 9 24 ?_))
  go_ret
  exact ⟨rfl, (Below.refl _ _).alloc (Nat.le_refl _) _⟩
set_option maxHeartbeats 2000000 in
theorem index_any (ao : Option Addr) (m cap : Nat) (l : List Rn) (w : World) (hc : Cs w ao (rcells l)) (hm : l.length = m) (hl : m ≤ cap) (hcm : cap ≤ maxLen) :
    Calls Try.prog 47 #[.slice ao m cap, .func (.func 42) #[] #[]] w (fun e w' => ∃ i : Int, e = .returned (.int .i64 i) ∧ Hid (decide (0 ≤ i) = less1 l) ∧ Below w.heap.size w w') := by
  unfold maxLen at hcm
  have HM := Lib.hid hm
  clear hm
  go_enter Try.func47, Try.ntmps47
  go_wp2_with (first | (at_make; refine Stop.un ?_) | (at_builtin; refine Stop.un ?_) | (with_reducible refine Stop.conv 24 9 ?_) | (with_reducible refine Stop.conv 9 24 ?_))
  go_loopw [5, 8] (fun _ i wr => ∃ j : Nat, j ≤ m ∧ i = .int .i64 (j : Int) ∧ Below w.heap.size w wr ∧ Hid (less1 (l.take j) = false)) (fun _ i _ => m - (intOf i).toNat)
  case atStart => exact ⟨0, by omega, rfl, Below.refl _ _, Lib.hid rfl⟩
  case round =>
    obtain ⟨j, hj, rfl, hb, HI⟩ := hrel
    by_cases hlt : j < m
    · have hjl : j < l.length := by have := HM.out; omega
      obtain ⟨q, o, rfl⟩ := hc.addr (by rw [rcells_length]; omega)
      obtain ⟨x0, x1⟩ := (hc.mono hb (Nat.le_refl _)).rat hjl
      have h1 : less1 (l.take (j + 1)) = decide (l[j].k < 1) := by
        rw [List.take_succ_eq_append_getElem hjl]
        have := HI.out
        unfold less1 at this ⊢
        rw [List.any_append, this]; simp
      have h2 : decide (l[j].k < 1) = true → less1 l = true := by
        intro h
        exact List.any_eq_true.2 ⟨l[j], List.getElem_mem _, h⟩
      generalize l[j] = x at x0 x1 h1 h2
      obtain ⟨n, k⟩ := x
      simp only at x0 x1 h1 h2
      have H1 := Lib.hid h1
      have H2 := Lib.hid h2
      clear h1 h2 hjl HI
      go_wp2_with (first | (at_make; refine Stop.un ?_) | (at_builtin; refine Stop.un ?_) | (with_reducible refine Stop.conv 24 9 ?_) | (with_reducible refine Stop.conv 9 24 ?_))
      refine (sum1_any n k _).mono ?_
      rintro e w1 ⟨rfl, b1⟩
      replace hb := hb.next b1
      clear b1 x0 x1
      by_cases hk : k < 1
      · have H3 := Lib.hid (H2.out (by simpa using hk))
        go_wp2_with (first | (at_make; refine Stop.un ?_) | (at_builtin; refine Stop.un ?_) | (with_reducible refine Stop.conv 24 9 ?_) | (with_reducible refine Stop.conv 9 24 ?_))
        go_ret
        exact ⟨j, rfl, Lib.hid (by rw [H3.out]; simp), hb⟩
      · have H3 := Lib.hid (H1.out.trans (decide_eq_false hk))
        go_wp2_with (first | (at_make; refine Stop.un ?_) | (at_builtin; refine Stop.un ?_) | (with_reducible refine Stop.conv 24 9 ?_) | (with_reducible refine Stop.conv 9 24 ?_))
        go_roundw
        case rel => exact ⟨j + 1, by omega, by go_num, hb, H3⟩
        case measure => simp [intOf]; omega
    · have hjm : j = m := by omega
      have h := HI.out
      rw [List.take_of_length_le (by have := HM.out; omega)] at h
      have H3 := Lib.hid h
      clear h HI
      subst hjm
      go_wp2_with (first | (at_make; refine Stop.un ?_) | (at_builtin; refine Stop.un ?_) | (with_reducible refine Stop.conv 24 9 ?_) | (with_reducible refine Stop.conv 9 24 ?_))
      go_ret
      exact ⟨-1, rfl, Lib.hid (by rw [H3.out]; rfl), hb⟩
set_option maxHeartbeats 2000000 in
theorem contains_any (ao : Option Addr) (m cap : Nat) (l : List Rn) (w : World) (hc : Cs w ao (rcells l)) (hm : l.length = m) (hl : m ≤ cap) (hcm : cap ≤ maxLen) :
    Calls Try.prog 41 #[.slice ao m cap, .func (.func 42) #[] #[]] w (fun e w' => e = .returned (.bool (less1 l)) ∧ Below w.heap.size w w') := by
  have HI := Lib.hid (fun w hc => index_any ao m cap l w hc hm hl hcm)
  clear hm
  go_enter Try.func41, Try.ntmps41
  go_wp2_with (first | (at_make; refine Stop.un ?_) | (at_builtin; refine Stop.un ?_) | (with_reducible refine Stop.conv 24 9 ?_) | (with_reducible refine Stop.conv 9 24 ?_))
  refine (HI.out _ hc).mono ?_
  rintro e w1 ⟨i, rfl, hi, b1⟩
  go_wp2_with (first | (at_make; refine Stop.un ?_) | (at_builtin; refine Stop.un ?_) | (with_reducible refine Stop.conv 24 9 ?_) | (with_reducible refine Stop.conv 9 24 ?_))
  go_ret
  exact ⟨by rw [← hi.out]; rfl, b1⟩
/-- What is left of the sum. -/
theorem errR_eq (l : List Rn) (h : less1 l = false) : errR l = if 4096 < totR l then 3 else 0 := by unfold errR; rw [h]; simp
theorem totR_take (l : List Rn) (j : Nat) (h : less1 l = false) : 0 ≤ totR (l.take j) ∧ totR (l.take j) ≤ totR l := by
  have hp := less1_false h
  have h1 := totR_ge (l.take j) (fun r hr => hp r (List.mem_of_mem_take hr))
  have h2 := totR_ge (l.drop j) (fun r hr => hp r (List.mem_of_mem_drop hr))
  have h3 := totR_append (l.take j) (l.drop j)
  rw [List.take_append_drop] at h3
  omega
set_option maxHeartbeats 2000000 in
theorem sum_any (ao : Option Addr) (m cap : Nat) (l : List Rn) (w : World) (hc : Cs w ao (rcells l)) (hm : l.length = m) (hl : m ≤ cap) (hcm : cap ≤ maxLen) (hwf : ∀ r ∈ l, r.k ≤ 9223372036854775807) :
    Calls Try.prog 29 #[.slice ao m cap] w (fun e w' => e = .returned (.tuple #[.int .i64 (sumR l), .int .i64 (errR l)]) ∧ Below w.heap.size w w') := by
  have HC := Lib.hid (fun w hc => contains_any ao m cap l w hc hm hl hcm)
  have HM := Lib.hid hm
  have HW := Lib.hid hwf
  unfold maxLen at hcm
  clear hm hwf
  generalize hS : sumR l = S
  generalize hE : errR l = E
  have HS := Lib.hid hS
  have HE := Lib.hid hE
  clear hS hE
  go_enter Try.func29, Try.ntmps29
  go_wp2_with (first | (at_make; refine Stop.un ?_) | (at_builtin; refine Stop.un ?_) | (with_reducible refine Stop.conv 24 9 ?_) | (with_reducible refine Stop.conv 9 24 ?_))
  refine (HC.out _ hc).mono ?_
  rintro e w1 ⟨rfl, b1⟩
  cases h1 : less1 l with
  | true =>
    have e1 : E = 1 := by rw [← HE.out]; unfold errR; rw [h1]; rfl
    have e2 : S = 0 := by rw [← HS.out]; unfold sumR; rw [HE.out, e1]; rfl
    subst e1 e2
    clear h1
    go_wp2_with (first | (at_make; refine Stop.un ?_) | (at_builtin; refine Stop.un ?_) | (with_reducible refine Stop.conv 24 9 ?_) | (with_reducible refine Stop.conv 9 24 ?_))
    go_ret2
    exact ⟨rfl, b1⟩
  | false =>
    have HP := Lib.hid h1
    clear h1
    go_wp2_with (first | (at_make; refine Stop.un ?_) | (at_builtin; refine Stop.un ?_) | (with_reducible refine Stop.conv 24 9 ?_) | (with_reducible refine Stop.conv 9 24 ?_))
    go_loopw [4, 6, 11] (fun n _ i wr => ∃ (j : Nat) (t : Int), j ≤ m ∧ 0 ≤ t ∧ t ≤ 4096 ∧ i = .int .i64 (j : Int) ∧ n = .int .i64 t ∧ Below w.heap.size w wr ∧ Hid (t = totR (l.take j))) (fun _ _ i _ => m - (intOf i).toNat)
    case atStart => exact ⟨0, 0, by omega, by omega, by omega, rfl, rfl, b1, Lib.hid rfl⟩
    case round =>
      clear b1
      obtain ⟨j, t, hj, ht0, ht1, rfl, rfl, hb, HI⟩ := hrel
      by_cases hlt : j < m
      · have hjl : j < l.length := by have := HM.out; omega
        obtain ⟨q, o, rfl⟩ := hc.addr (by rw [rcells_length]; omega)
        obtain ⟨x0, x1⟩ := (hc.mono hb (Nat.le_refl _)).rat hjl
        have h1 : totR (l.take (j + 1)) = t + l[j].k := by rw [List.take_succ_eq_append_getElem hjl, totR_append, ← HI.out]; simp [totR]
        have h2 := less1_false HP.out l[j] (List.getElem_mem _)
        have h3 := HW.out l[j] (List.getElem_mem _)
        have h4 := (totR_take l (j + 1) HP.out).2
        rw [h1] at h4
        generalize l[j] = x at x0 x1 h1 h2 h3 h4
        obtain ⟨n, k⟩ := x
        simp only at x0 x1 h1 h2 h3 h4
        have H1 := Lib.hid h1
        have H4 := Lib.hid h4
        clear h1 h4 hjl HI
        by_cases hk : 4096 - t < k
        · have e1 : E = 3 := by rw [← HE.out, errR_eq _ HP.out, if_pos (by have := H4.out; omega)]
          have e2 : S = 0 := by rw [← HS.out]; unfold sumR; rw [HE.out, e1]; rfl
          subst e1 e2
          replace hb := hb.next ((Below.refl wr.heap.size wr).alloc (Nat.le_refl _) (.cells #[.int .i64 n, .int .i64 k] 34))
          go_wp2_with (first | (at_make; refine Stop.un ?_) | (at_builtin; refine Stop.un ?_) | (with_reducible refine Stop.conv 24 9 ?_) | (with_reducible refine Stop.conv 9 24 ?_))
          go_ret2
          exact ⟨rfl, hb⟩
        · replace hb := hb.next ((Below.refl wr.heap.size wr).alloc (Nat.le_refl _) (.cells #[.int .i64 n, .int .i64 k] 34))
          go_wp2_with (first | (at_make; refine Stop.un ?_) | (at_builtin; refine Stop.un ?_) | (with_reducible refine Stop.conv 24 9 ?_) | (with_reducible refine Stop.conv 9 24 ?_))
          go_roundw
          case rel => exact ⟨j + 1, t + k, by omega, by omega, by omega, by go_num, rfl, hb, Lib.hid H1.out.symm⟩
          case measure => simp [intOf]; omega
      · have hjm : j = m := by omega
        have h := HI.out
        rw [List.take_of_length_le (by have := HM.out; omega)] at h
        have e1 : E = 0 := by rw [← HE.out, errR_eq _ HP.out, if_neg (by omega)]
        have e2 : S = t := by rw [← HS.out]; unfold sumR; rw [HE.out, e1, if_pos rfl, h]
        subst e1 e2 hjm
        clear h HI
        go_wp2_with (first | (at_make; refine Stop.un ?_) | (at_builtin; refine Stop.un ?_) | (with_reducible refine Stop.conv 24 9 ?_) | (with_reducible refine Stop.conv 9 24 ?_))
        go_ret2
        exact ⟨rfl, hb⟩
end Go.Proofs.Ytkgcjafediimnaa
