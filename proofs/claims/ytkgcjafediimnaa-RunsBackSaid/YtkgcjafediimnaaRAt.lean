/- The number at a place: what the program returns. -/
import Derived.Test.YtkgcjafediimnaaRSum
set_option linter.unusedVariables false
set_option linter.unusedSimpArgs false
namespace Go.Proofs.Ytkgcjafediimnaa
open Go.RowKit
theorem atGo_drop (l : List Rn) (j : Nat) (left run : Int) (h : j < l.length) : atGo (l.drop j) left run = if l[j].k ≤ left then atGo (l.drop (j + 1)) (left - l[j].k) (run + 1) else (l[j].n, run) := by
  rw [List.drop_eq_getElem_cons h, atGo]
/-- The search does not leave the row. -/
theorem in_row {l : List Rn} {j : Nat} {left : Int} (h : left < totR (l.drop j)) (h0 : 0 ≤ left) : j < l.length := by
  rcases Nat.lt_or_ge j l.length with h1 | h1
  · exact h1
  · rw [List.drop_of_length_le h1, totR] at h; omega
set_option maxHeartbeats 2000000 in
theorem at_any (ao : Option Addr) (m cap : Nat) (l : List Rn) (p : Int) (w : World) (hc : Cs w ao (rcells l)) (hm : l.length = m) (hl : m ≤ cap) (hcm : cap ≤ maxLen) (hwf : ∀ r ∈ l, r.k ≤ 9223372036854775807) :
    Calls Try.prog 15 #[.slice ao m cap, .int .i64 p] w (fun e w' => e = .returned (.tuple #[.int .i64 (atN l p), .int .i64 (atI l p), .bool (atOk l p)]) ∧ Below w.heap.size w w') := by
  have HC := Lib.hid (fun w hc => sum_any ao m cap l w hc hm hl hcm hwf)
  have HM := Lib.hid hm
  unfold maxLen at hcm
  clear hm hwf
  generalize hN : atN l p = N
  generalize hI : atI l p = I
  have HN := Lib.hid hN
  have HI := Lib.hid hI
  clear hN hI
  generalize hok : atOk l p = ok
  have HOK := Lib.hid hok
  clear hok
  go_enter Try.func15, Try.ntmps15
  go_wp2_with (first | (at_make; refine Stop.un ?_) | (at_builtin; refine Stop.un ?_) | (with_reducible refine Stop.conv 24 9 ?_) | (with_reducible refine Stop.conv 9 24 ?_))
  refine (HC.out _ hc).mono ?_
  rintro e w1 ⟨rfl, b1⟩
  by_cases he : errR l = 0
  · have hS : sumR l = totR l := by unfold sumR; rw [if_pos he]
    have hp := (errR_ok he).1
    rw [he, hS]
    have HE := Lib.hid he
    have HP := Lib.hid (less1_false hp)
    have h4 := (errR_ok he).2
    clear he hS hp HC
    generalize ht : totR l = t at h4
    have HT := Lib.hid ht
    clear ht
    by_cases hp0 : p < 0
    · have e1 : ok = false := by rw [← HOK.out]; unfold atOk; simp; omega
      have e2 : N = 0 := by rw [← HN.out]; unfold atN; rw [HOK.out, e1]; rfl
      have e3 : I = 0 := by rw [← HI.out]; unfold atI; rw [HOK.out, e1]; rfl
      subst e1 e2 e3
      go_wp2_with (first | (at_make; refine Stop.un ?_) | (at_builtin; refine Stop.un ?_) | (with_reducible refine Stop.conv 24 9 ?_) | (with_reducible refine Stop.conv 9 24 ?_))
      go_ret3
      exact ⟨rfl, b1⟩
    · by_cases hp1 : t ≤ p
      · have e1 : ok = false := by rw [← HOK.out]; unfold atOk; simp; have := HT.out; omega
        have e2 : N = 0 := by rw [← HN.out]; unfold atN; rw [HOK.out, e1]; rfl
        have e3 : I = 0 := by rw [← HI.out]; unfold atI; rw [HOK.out, e1]; rfl
        subst e1 e2 e3
        go_wp2_with (first | (at_make; refine Stop.un ?_) | (at_builtin; refine Stop.un ?_) | (with_reducible refine Stop.conv 24 9 ?_) | (with_reducible refine Stop.conv 9 24 ?_))
        go_ret3
        exact ⟨rfl, b1⟩
      · have e1 : ok = true := by rw [← HOK.out]; unfold atOk; simp; have := HT.out; have := HE.out; omega
        subst e1
        generalize hat : atGo l p 0 = q
        obtain ⟨qn, qi⟩ := q
        have HAT := Lib.hid hat
        have eN : qn = N := by rw [← HN.out]; unfold atN; rw [HOK.out, if_pos rfl, hat]
        have eI : qi = I := by rw [← HI.out]; unfold atI; rw [HOK.out, if_pos rfl, hat]
        clear hat
        subst eN eI
        have hc1 := hc.mono b1 (Nat.le_refl _)
        go_wp2_with (first | (at_make; refine Stop.un ?_) | (at_builtin; refine Stop.un ?_) | (with_reducible refine Stop.conv 24 9 ?_) | (with_reducible refine Stop.conv 9 24 ?_))
        go_loopw [9, 10] (fun run left wr => ∃ (j : Nat) (lf : Int), j ≤ m ∧ 0 ≤ lf ∧ lf ≤ p ∧ run = .int .i64 (j : Int) ∧ left = .int .i64 lf ∧ wr = w1 ∧ Hid (lf < totR (l.drop j)) ∧ Hid (atGo (l.drop j) lf j = (qn, qi))) (fun run _ _ => m - (intOf run).toNat)
        case atStart => exact ⟨0, p, by omega, by omega, by omega, rfl, rfl, rfl, Lib.hid (by rw [List.drop_zero, HT.out]; omega), HAT⟩
        case round =>
          obtain ⟨j, lf, hj, hlf0, hlf1, rfl, rfl, rfl, HL, HG⟩ := hrel
          have hjl := in_row HL.out hlf0
          have hjm : j < m := by have := HM.out; omega
          obtain ⟨b, o, rfl⟩ := hc.addr (by rw [rcells_length]; omega)
          obtain ⟨x0, x1⟩ := hc1.rat hjl
          have hg := HG.out
          rw [atGo_drop _ _ _ _ hjl] at hg
          have hl2 := HL.out
          rw [List.drop_eq_getElem_cons hjl, totR] at hl2
          have hk := HP.out l[j] (List.getElem_mem _)
          generalize l[j] = x at x0 x1 hg hl2 hk
          obtain ⟨n, k⟩ := x
          simp only at x0 x1 hg hl2 hk
          have HG2 := Lib.hid hg
          have HL2 := Lib.hid hl2
          clear hg hl2 hjl HL HG
          by_cases hkl : k ≤ lf
          · have HG3 := Lib.hid (HG2.out.symm.trans (if_pos hkl)).symm
            go_wp2_with (first | (at_make; refine Stop.un ?_) | (at_builtin; refine Stop.un ?_) | (with_reducible refine Stop.conv 24 9 ?_) | (with_reducible refine Stop.conv 9 24 ?_))
            go_roundw
            case rel => exact ⟨j + 1, lf - k, by omega, by omega, by omega, by go_num, rfl, trivial, Lib.hid (by have := HL2.out; omega), Lib.hid (by rw [← HG3.out]; simp)⟩
            case measure => simp [intOf]; omega
          · have h3 := HG2.out.symm.trans (if_neg hkl)
            simp only [Prod.mk.injEq] at h3
            obtain ⟨e1, e2⟩ := h3
            subst e1 e2
            clear HG2
            go_wp2_with (first | (at_make; refine Stop.un ?_) | (at_builtin; refine Stop.un ?_) | (with_reducible refine Stop.conv 24 9 ?_) | (with_reducible refine Stop.conv 9 24 ?_))
            go_ret3
            exact ⟨rfl, b1⟩
  · have e1 : ok = false := by rw [← HOK.out]; unfold atOk; simp [he]
    have e2 : N = 0 := by rw [← HN.out]; unfold atN; rw [HOK.out, e1]; rfl
    have e3 : I = 0 := by rw [← HI.out]; unfold atI; rw [HOK.out, e1]; rfl
    subst e1 e2 e3
    have hne : (errR l != 0) = true := by simpa using he
    clear he HC
    generalize errR l = E at hne
    generalize sumR l = S
    go_wp2_with (first | (at_make; refine Stop.un ?_) | (at_builtin; refine Stop.un ?_) | (with_reducible refine Stop.conv 24 9 ?_) | (with_reducible refine Stop.conv 9 24 ?_))
    go_ret3
    exact ⟨rfl, b1⟩
end Go.Proofs.Ytkgcjafediimnaa
