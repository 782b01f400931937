/- Whether runs may be, and the number at a place: what the program and the reference return. -/
import Derived.Test.YtkgcjafediimnaaRRFlat
import Derived.Test.YtkgcjafediimnaaRunsFew
set_option linter.unusedVariables false
set_option linter.unusedSimpArgs false
namespace Go.Proofs.Ytkgcjafediimnaa
open Go.RowKit
theorem apart_all : ∀ (rs : List Rn), (∀ (j : Nat) (h : j + 1 < rs.length), rs[j].n ≠ rs[j + 1].n) → apart rs = true
  | [], _ => rfl
  | [a], _ => rfl
  | a :: b :: t, h => by
    have h1 := h 0 (by simp)
    have h2 := apart_all (b :: t) (fun j hj => h (j + 1) (by simpa using hj))
    simp at h1
    simp [apart, h2]
    exact fun e => h1 e.symm
set_option maxHeartbeats 4000000 in
theorem right_any (ao : Option Addr) (m cap : Nat) (l : List Rn) (w : World) (hc : Cs w ao (rcells l)) (hm : l.length = m) (hl : m ≤ cap) (hcm : cap ≤ maxLen) (hwf : ∀ r ∈ l, r.k ≤ 9223372036854775807) :
    Calls Try.prog 20 #[.slice ao m cap] w (fun e w' => e = .returned (.bool (rightR l)) ∧ Below w.heap.size w w') := by
  have HC := Lib.hid (fun w hc => sum_any ao m cap l w hc hm hl hcm hwf)
  have HM := Lib.hid hm
  unfold maxLen at hcm
  clear hm hwf
  generalize hR : rightR l = R
  have HR := Lib.hid hR
  clear hR
  go_enter Try.func20, Try.ntmps20
  go_wp2_with (first | (at_make; refine Stop.un ?_) | (at_builtin; refine Stop.un ?_) | (with_reducible refine Stop.conv 24 9 ?_) | (with_reducible refine Stop.conv 9 24 ?_))
  go_loopw [3, 8] (fun _ i wr => ∃ j : Nat, j ≤ m ∧ i = .int .i64 (j : Int) ∧ Below w.heap.size w wr ∧ Hid (∀ (q : Nat) (h : q + 1 < l.length), q + 1 < j → l[q].n ≠ l[q + 1].n)) (fun _ i _ => m - (intOf i).toNat)
  case atStart => exact ⟨0, by omega, rfl, Below.refl _ _, Lib.hid (fun q h h2 => by omega)⟩
  case round =>
    obtain ⟨j, hj, rfl, hb, HI⟩ := hrel
    by_cases hlt : j < m
    · have hjl : j < l.length := by have := HM.out; omega
      obtain ⟨b, o, rfl⟩ := hc.addr (by rw [rcells_length]; omega)
      by_cases hj0 : j = 0
      · subst hj0
        go_wp2_with (first | (at_make; refine Stop.un ?_) | (at_builtin; refine Stop.un ?_) | (with_reducible refine Stop.conv 24 9 ?_) | (with_reducible refine Stop.conv 9 24 ?_))
        refine mix_startE 16 rfl (by kernel_rfl) ?_
        intro xq hxq
        replace hb := Below.next hb hxq
        clear hxq
        refine mix_quiet Keeps.ext 0 rfl (by kernel_rfl) rfl ?_
        intro ι U hne hU
        go_big_quiet_op
        clear hU hne U ι
        show wpAnyM _ _ _ _ _ _ _ _ _
        refine mix_quiet Keeps.ext 1 rfl (by kernel_rfl) rfl ?_
        intro ι U hne hU
        go_big_quiet_op
        clear hU hne U ι
        show wpAnyM _ _ _ _ _ _ _ _ _
        refine mix_quiet Keeps.ext 2 rfl (by kernel_rfl) rfl ?_
        intro ι U hne hU
        go_big_quiet_op
        clear hU hne U ι
        show wpAnyM _ _ _ _ _ _ _ _ _
        refine mix_skip Keeps.ext 3 rfl (by kernel_rfl) rfl ?_
        go_big_quiet_skip
        refine wpQuiet_nil ?_
        show wpAnyM _ _ _ _ _ _ _ _ _
        refine mix_skip Keeps.ext 4 rfl (by kernel_rfl) rfl ?_
        go_big_quiet_skip
        refine wpQuiet_nil ?_
        show wpAnyM _ _ _ _ _ _ _ _ _
        refine mix_skip Keeps.ext 5 rfl (by kernel_rfl) rfl ?_
        go_big_quiet_skip
        refine wpQuiet_nil ?_
        show wpAnyM _ _ _ _ _ _ _ _ _
        refine mix_skip Keeps.ext 6 rfl (by kernel_rfl) rfl ?_
        go_big_quiet_skip
        refine wpQuiet_nil ?_
        show wpAnyM _ _ _ _ _ _ _ _ _
        refine mix_skip Keeps.ext 7 rfl (by kernel_rfl) rfl ?_
        go_big_quiet_skip
        refine wpQuiet_nil ?_
        show wpAnyM _ _ _ _ _ _ _ _ _
        refine mix_skip Keeps.ext 8 rfl (by kernel_rfl) rfl ?_
        go_big_quiet_skip
        refine wpQuiet_nil ?_
        show wpAnyM _ _ _ _ _ _ _ _ _
        refine mix_skip Keeps.ext 9 rfl (by kernel_rfl) rfl ?_
        go_big_quiet_skip
        refine wpQuiet_nil ?_
        show wpAnyM _ _ _ _ _ _ _ _ _
        refine mix_skip Keeps.ext 10 rfl (by kernel_rfl) rfl ?_
        go_big_quiet_skip
        refine wpQuiet_nil ?_
        show wpAnyM _ _ _ _ _ _ _ _ _
        refine mix_skip Keeps.ext 11 rfl (by kernel_rfl) rfl ?_
        go_big_quiet_skip
        refine wpQuiet_nil ?_
        show wpAnyM _ _ _ _ _ _ _ _ _
        refine mix_skip Keeps.ext 12 rfl (by kernel_rfl) rfl ?_
        go_big_quiet_skip
        refine wpQuiet_nil ?_
        show wpAnyM _ _ _ _ _ _ _ _ _
        refine mix_skip Keeps.ext 13 rfl (by kernel_rfl) rfl ?_
        go_big_quiet_skip
        refine wpQuiet_nil ?_
        show wpAnyM _ _ _ _ _ _ _ _ _
        refine mix_skip Keeps.ext 14 rfl (by kernel_rfl) rfl ?_
        go_big_quiet_skip
        refine wpQuiet_nil ?_
        show wpAnyM _ _ _ _ _ _ _ _ _
        refine mix_quiet Keeps.ext 15 rfl (by kernel_rfl) rfl ?_
        intro ι U hne hU
        go_big_quiet_op
        clear hU hne U ι
        show wpAnyM _ _ _ _ _ _ _ _ _
        refine mix_end (by kernel_rfl) ?_
        go_wp2_with (first | (at_make; refine Stop.un ?_) | (at_builtin; refine Stop.un ?_) | (with_reducible refine Stop.conv 24 9 ?_) | (with_reducible refine Stop.conv 9 24 ?_))
        go_roundw
        case rel => exact ⟨0 + 1, by omega, by go_num, hb, Lib.hid (fun q h h2 => by omega)⟩
        case measure => simp [intOf]; omega
      · obtain ⟨x0, -⟩ := (hc.mono hb (Nat.le_refl _)).rat hjl
        have hjl1 : j - 1 < l.length := by omega
        obtain ⟨y0, -⟩ := (hc.mono hb (Nat.le_refl _)).rat hjl1
        have hb0 : decide (0 < j) = true := by simp; omega
        by_cases hxy : l[j].n = l[j - 1].n
        · have hA : apart l = false := by
            cases e : apart l with
            | false => rfl
            | true =>
              have := apart_get l (j - 1) (by omega) e
              simp only [show j - 1 + 1 = j by omega] at this
              exact absurd hxy.symm this
          have e1 : R = false := by rw [← HR.out]; unfold rightR; rw [hA]; rfl
          rw [hxy] at x0
          subst e1
          have hb2 : (l[j - 1].n == l[j - 1].n) = true := by simp
          clear hA hxy HI
          generalize l[j - 1].n = y at x0 y0 hb2
          go_wp2_with (first | (at_make; refine Stop.un ?_) | (at_builtin; refine Stop.un ?_) | (with_reducible refine Stop.conv 24 9 ?_) | (with_reducible refine Stop.conv 9 24 ?_))
          refine mix_startE 16 rfl (by kernel_rfl) ?_
          intro xq hxq
          replace hb := Below.next hb hxq
          replace x0 := Ext.cell hxq x0
          replace y0 := Ext.cell hxq y0
          clear hxq
          refine mix_quiet Keeps.ext 0 rfl (by kernel_rfl) rfl ?_
          intro ι U hne hU
          go_big_quiet_op
          clear hU hne U ι
          show wpAnyM _ _ _ _ _ _ _ _ _
          refine mix_quiet Keeps.ext 1 rfl (by kernel_rfl) rfl ?_
          intro ι U hne hU
          go_big_quiet_op
          clear hU hne U ι
          show wpAnyM _ _ _ _ _ _ _ _ _
          refine mix_quiet Keeps.ext 2 rfl (by kernel_rfl) rfl ?_
          intro ι U hne hU
          go_big_quiet_op
          clear hU hne U ι
          show wpAnyM _ _ _ _ _ _ _ _ _
          refine mix_quiet Keeps.ext 3 rfl (by kernel_rfl) rfl ?_
          intro ι U hne hU
          go_big_quiet_op
          clear hU hne U ι
          show wpAnyM _ _ _ _ _ _ _ _ _
          refine mix_quiet Keeps.ext 4 rfl (by kernel_rfl) rfl ?_
          intro ι U hne hU
          go_big_quiet_op
          clear hU hne U ι
          show wpAnyM _ _ _ _ _ _ _ _ _
          refine mix_quiet Keeps.ext 5 rfl (by kernel_rfl) rfl ?_
          intro ι U hne hU
          go_big_quiet_op
          clear hU hne U ι
          show wpAnyM _ _ _ _ _ _ _ _ _
          refine mix_quiet Keeps.ext 6 rfl (by kernel_rfl) rfl ?_
          intro ι U hne hU
          go_big_quiet_op
          clear hU hne U ι
          show wpAnyM _ _ _ _ _ _ _ _ _
          refine mix_quiet Keeps.ext 7 rfl (by kernel_rfl) rfl ?_
          intro ι U hne hU
          have hcw0 := fun ii => (hU ii).cell x0
          have hcw1 := fun ii => (hU ii).cell y0
          go_big_quiet_op
          clear hU hne hcw0 hcw1 U ι
          show wpAnyM _ _ _ _ _ _ _ _ _
          refine mix_quiet Keeps.ext 8 rfl (by kernel_rfl) rfl ?_
          intro ι U hne hU
          go_big_quiet_op
          clear hU hne U ι
          show wpAnyM _ _ _ _ _ _ _ _ _
          refine mix_quiet Keeps.ext 9 rfl (by kernel_rfl) rfl ?_
          intro ι U hne hU
          go_big_quiet_op
          clear hU hne U ι
          show wpAnyM _ _ _ _ _ _ _ _ _
          refine mix_quiet Keeps.ext 10 rfl (by kernel_rfl) rfl ?_
          intro ι U hne hU
          go_big_quiet_op
          clear hU hne U ι
          show wpAnyM _ _ _ _ _ _ _ _ _
          refine mix_quiet Keeps.ext 11 rfl (by kernel_rfl) rfl ?_
          intro ι U hne hU
          go_big_quiet_op
          clear hU hne U ι
          show wpAnyM _ _ _ _ _ _ _ _ _
          refine mix_quiet Keeps.ext 12 rfl (by kernel_rfl) rfl ?_
          intro ι U hne hU
          go_big_quiet_op
          clear hU hne U ι
          show wpAnyM _ _ _ _ _ _ _ _ _
          refine mix_quiet Keeps.ext 13 rfl (by kernel_rfl) rfl ?_
          intro ι U hne hU
          have hcw0 := fun ii => (hU ii).cell x0
          have hcw1 := fun ii => (hU ii).cell y0
          go_big_quiet_op
          clear hU hne hcw0 hcw1 U ι
          show wpAnyM _ _ _ _ _ _ _ _ _
          refine mix_quiet Keeps.ext 14 rfl (by kernel_rfl) rfl ?_
          intro ι U hne hU
          go_big_quiet_op
          clear hU hne U ι
          show wpAnyM _ _ _ _ _ _ _ _ _
          refine mix_quiet Keeps.ext 15 rfl (by kernel_rfl) rfl ?_
          intro ι U hne hU
          go_big_quiet_op
          clear hU hne U ι
          show wpAnyM _ _ _ _ _ _ _ _ _
          refine mix_end (by kernel_rfl) ?_
          go_wp2_with (first | (at_make; refine Stop.un ?_) | (at_builtin; refine Stop.un ?_) | (with_reducible refine Stop.conv 24 9 ?_) | (with_reducible refine Stop.conv 9 24 ?_))
          go_ret
          exact ⟨rfl, hb⟩
        · have hn : ∀ (q : Nat) (h : q + 1 < l.length), q + 1 < j + 1 → l[q].n ≠ l[q + 1].n := by
            intro q h h2
            by_cases e : q + 1 = j
            · subst e; intro e2; exact hxy (by simpa using e2.symm)
            · exact HI.out q h (by omega)
          have HN := Lib.hid hn
          have hb2 : (l[j].n == l[j - 1].n) = false := by simpa using hxy
          clear hn hxy HI
          generalize l[j - 1].n = y at y0 hb2
          generalize l[j].n = x at x0 hb2
          go_wp2_with (first | (at_make; refine Stop.un ?_) | (at_builtin; refine Stop.un ?_) | (with_reducible refine Stop.conv 24 9 ?_) | (with_reducible refine Stop.conv 9 24 ?_))
          refine mix_startE 16 rfl (by kernel_rfl) ?_
          intro xq hxq
          replace hb := Below.next hb hxq
          replace x0 := Ext.cell hxq x0
          replace y0 := Ext.cell hxq y0
          clear hxq
          refine mix_quiet Keeps.ext 0 rfl (by kernel_rfl) rfl ?_
          intro ι U hne hU
          go_big_quiet_op
          clear hU hne U ι
          show wpAnyM _ _ _ _ _ _ _ _ _
          refine mix_quiet Keeps.ext 1 rfl (by kernel_rfl) rfl ?_
          intro ι U hne hU
          go_big_quiet_op
          clear hU hne U ι
          show wpAnyM _ _ _ _ _ _ _ _ _
          refine mix_quiet Keeps.ext 2 rfl (by kernel_rfl) rfl ?_
          intro ι U hne hU
          go_big_quiet_op
          clear hU hne U ι
          show wpAnyM _ _ _ _ _ _ _ _ _
          refine mix_quiet Keeps.ext 3 rfl (by kernel_rfl) rfl ?_
          intro ι U hne hU
          go_big_quiet_op
          clear hU hne U ι
          show wpAnyM _ _ _ _ _ _ _ _ _
          refine mix_quiet Keeps.ext 4 rfl (by kernel_rfl) rfl ?_
          intro ι U hne hU
          go_big_quiet_op
          clear hU hne U ι
          show wpAnyM _ _ _ _ _ _ _ _ _
          refine mix_quiet Keeps.ext 5 rfl (by kernel_rfl) rfl ?_
          intro ι U hne hU
          go_big_quiet_op
          clear hU hne U ι
          show wpAnyM _ _ _ _ _ _ _ _ _
          refine mix_quiet Keeps.ext 6 rfl (by kernel_rfl) rfl ?_
          intro ι U hne hU
          go_big_quiet_op
          clear hU hne U ι
          show wpAnyM _ _ _ _ _ _ _ _ _
          refine mix_quiet Keeps.ext 7 rfl (by kernel_rfl) rfl ?_
          intro ι U hne hU
          have hcw0 := fun ii => (hU ii).cell x0
          have hcw1 := fun ii => (hU ii).cell y0
          go_big_quiet_op
          clear hU hne hcw0 hcw1 U ι
          show wpAnyM _ _ _ _ _ _ _ _ _
          refine mix_quiet Keeps.ext 8 rfl (by kernel_rfl) rfl ?_
          intro ι U hne hU
          go_big_quiet_op
          clear hU hne U ι
          show wpAnyM _ _ _ _ _ _ _ _ _
          refine mix_quiet Keeps.ext 9 rfl (by kernel_rfl) rfl ?_
          intro ι U hne hU
          go_big_quiet_op
          clear hU hne U ι
          show wpAnyM _ _ _ _ _ _ _ _ _
          refine mix_quiet Keeps.ext 10 rfl (by kernel_rfl) rfl ?_
          intro ι U hne hU
          go_big_quiet_op
          clear hU hne U ι
          show wpAnyM _ _ _ _ _ _ _ _ _
          refine mix_quiet Keeps.ext 11 rfl (by kernel_rfl) rfl ?_
          intro ι U hne hU
          go_big_quiet_op
          clear hU hne U ι
          show wpAnyM _ _ _ _ _ _ _ _ _
          refine mix_quiet Keeps.ext 12 rfl (by kernel_rfl) rfl ?_
          intro ι U hne hU
          go_big_quiet_op
          clear hU hne U ι
          show wpAnyM _ _ _ _ _ _ _ _ _
          refine mix_quiet Keeps.ext 13 rfl (by kernel_rfl) rfl ?_
          intro ι U hne hU
          have hcw0 := fun ii => (hU ii).cell x0
          have hcw1 := fun ii => (hU ii).cell y0
          go_big_quiet_op
          clear hU hne hcw0 hcw1 U ι
          show wpAnyM _ _ _ _ _ _ _ _ _
          refine mix_quiet Keeps.ext 14 rfl (by kernel_rfl) rfl ?_
          intro ι U hne hU
          go_big_quiet_op
          clear hU hne U ι
          show wpAnyM _ _ _ _ _ _ _ _ _
          refine mix_quiet Keeps.ext 15 rfl (by kernel_rfl) rfl ?_
          intro ι U hne hU
          go_big_quiet_op
          clear hU hne U ι
          show wpAnyM _ _ _ _ _ _ _ _ _
          refine mix_end (by kernel_rfl) ?_
          go_wp2_with (first | (at_make; refine Stop.un ?_) | (at_builtin; refine Stop.un ?_) | (with_reducible refine Stop.conv 24 9 ?_) | (with_reducible refine Stop.conv 9 24 ?_))
          go_roundw
          case rel => exact ⟨j + 1, by omega, by go_num, hb, HN⟩
          case measure => simp [intOf]; omega
    · have hA : apart l = true := apart_all l (fun q h => HI.out q h (by have := HM.out; omega))
      have e1 : R = (errR l == 0) := by rw [← HR.out]; unfold rightR; rw [hA]; rfl
      have HRE := Lib.hid e1
      clear hA HI HR e1
      generalize errR l = E at HC HRE
      generalize sumR l = S at HC
      go_wp2_with (first | (at_make; refine Stop.un ?_) | (at_builtin; refine Stop.un ?_) | (with_reducible refine Stop.conv 24 9 ?_) | (with_reducible refine Stop.conv 9 24 ?_))
      refine (HC.out _ (hc.mono hb (Nat.le_refl _))).mono ?_
      rintro e w1 ⟨rfl, b1⟩
      go_wp2_with (first | (at_make; refine Stop.un ?_) | (at_builtin; refine Stop.un ?_) | (with_reducible refine Stop.conv 24 9 ?_) | (with_reducible refine Stop.conv 9 24 ?_))
      go_ret
      exact ⟨by rw [HRE.out]; rfl, hb.next b1⟩
theorem right_eq (l : List Rn) : rightR l = (decide (errR l = 0) && decide (ofR (flatE l) = l)) := by
  unfold rightR
  by_cases h : errR l = 0
  · rw [flatE_ok h, of_flat_iff l (less1_false (errR_ok h).1)]; simp [h]
  · simp [h]
theorem flatE_len (l : List Rn) : (flatE l).length ≤ 4096 := by
  by_cases h : errR l = 0
  · rw [flatE_ok h]
    have h1 := errR_ok h
    have := flatR_length l (less1_false h1.1)
    omega
  · rw [flatE_no h]; simp
set_option maxHeartbeats 2000000 in
theorem rright_any (ao : Option Addr) (m cap : Nat) (l : List Rn) (w : World) (hc : Cs w ao (rcells l)) (hm : l.length = m) (hl : m ≤ cap) (hcm : cap ≤ maxLen) :
    Calls Try.prog 21 #[.slice ao m cap] w (fun e w' => e = .returned (.bool (rightR l)) ∧ Below w.heap.size w w') := by
  have HC := Lib.hid (fun w hc => rflat_any ao m cap l w hc hm hl hcm)
  have hfl := flatE_len l
  have HM := Lib.hid hm
  rw [right_eq]
  clear hm
  generalize flatE l = fl at HC hfl ⊢
  by_cases h : errR l = 0
  · rw [h, decide_eq_true rfl, Bool.true_and]
    rw [h] at HC
    clear h
    go_enter Try.func21, Try.ntmps21
    go_wp2_with (first | (at_make; refine Stop.un ?_) | (at_builtin; refine Stop.un ?_) | (with_reducible refine Stop.conv 24 9 ?_) | (with_reducible refine Stop.conv 9 24 ?_))
    refine (HC.out _ hc).mono ?_
    rintro e w1 ⟨a1, n1, c1, h1, rfl, o1⟩
    have b1 := Own.below o1
    have le1 := owns_le o1.1
    have mx1 := owns_max o1.1
    have cs1 := Own.cs o1
    have HO := Lib.hid (fun w hc => rof_any a1 n1 c1 fl w hc h1 le1 mx1 (by omega))
    clear h1 o1
    go_wp2_with (first | (at_make; refine Stop.un ?_) | (at_builtin; refine Stop.un ?_) | (with_reducible refine Stop.conv 24 9 ?_) | (with_reducible refine Stop.conv 9 24 ?_))
    refine (HO.out _ cs1).mono ?_
    rintro e w2 ⟨a2, n2, c2, h2, rfl, o2⟩
    replace b1 := b1.next (Own.below o2)
    have HS := Lib.hid (fun w hc hd => same_any a2 ao n2 m c2 cap (ofR fl) l w hc hd h2 HM.out (owns_le o2.1) (owns_max o2.1) hl hcm)
    have cs2 := Own.cs o2
    clear h2 o2 HO
    go_wp2_with (first | (at_make; refine Stop.un ?_) | (at_builtin; refine Stop.un ?_) | (with_reducible refine Stop.conv 24 9 ?_) | (with_reducible refine Stop.conv 9 24 ?_))
    refine (HS.out _ cs2 (hc.mono b1 (Nat.le_refl _))).mono ?_
    rintro e w3 ⟨rfl, b3⟩
    go_wp2_with (first | (at_make; refine Stop.un ?_) | (at_builtin; refine Stop.un ?_) | (with_reducible refine Stop.conv 24 9 ?_) | (with_reducible refine Stop.conv 9 24 ?_))
    go_ret
    exact ⟨rfl, b1.next b3⟩
  · rw [decide_eq_false h, Bool.false_and]
    have hne : (errR l == 0) = false := by simpa using h
    clear h
    generalize errR l = E at HC hne
    go_enter Try.func21, Try.ntmps21
    go_wp2_with (first | (at_make; refine Stop.un ?_) | (at_builtin; refine Stop.un ?_) | (with_reducible refine Stop.conv 24 9 ?_) | (with_reducible refine Stop.conv 9 24 ?_))
    refine (HC.out _ hc).mono ?_
    rintro e w1 ⟨a1, n1, c1, h1, rfl, o1⟩
    have b1 := Own.below o1
    clear h1 o1
    go_wp2_with (first | (at_make; refine Stop.un ?_) | (at_builtin; refine Stop.un ?_) | (with_reducible refine Stop.conv 24 9 ?_) | (with_reducible refine Stop.conv 9 24 ?_))
    go_ret
    exact ⟨rfl, b1⟩
end Go.Proofs.Ytkgcjafediimnaa
