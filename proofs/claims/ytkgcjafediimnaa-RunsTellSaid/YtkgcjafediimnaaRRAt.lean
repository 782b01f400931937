/- The number at a place: what the reference returns. -/
import Derived.Test.YtkgcjafediimnaaRRight
set_option linter.unusedVariables false
set_option linter.unusedSimpArgs false
namespace Go.Proofs.Ytkgcjafediimnaa
open Go.RowKit
set_option maxHeartbeats 2000000 in
theorem rat_any (ao : Option Addr) (m cap : Nat) (l : List Rn) (p : Int) (w : World) (hc : Cs w ao (rcells l)) (hm : l.length = m) (hl : m ≤ cap) (hcm : cap ≤ maxLen) :
    Calls Try.prog 19 #[.slice ao m cap, .int .i64 p] w (fun e w' => e = .returned (.tuple #[.int .i64 (atN l p), .int .i64 (atI l p), .bool (atOk l p)]) ∧ Below w.heap.size w w') := by
  have HC := Lib.hid (fun w hc => rflat_any ao m cap l w hc hm hl hcm)
  have HM := Lib.hid hm
  unfold maxLen at hcm
  clear hm
  generalize hN : atN l p = N
  generalize hI : atI l p = I
  have HN := Lib.hid hN
  have HI := Lib.hid hI
  clear hN hI
  generalize hok : atOk l p = ok
  have HOK := Lib.hid hok
  clear hok
  go_enter Try.func19, Try.ntmps19
  go_wp2_with (first | (at_make; refine Stop.un ?_) | (at_builtin; refine Stop.un ?_) | (with_reducible refine Stop.conv 24 9 ?_) | (with_reducible refine Stop.conv 9 24 ?_))
  refine (HC.out _ hc).mono ?_
  rintro e w1 ⟨a1, n1, c1, h1, rfl, o1⟩
  have b1 := Own.below o1
  have le1 := owns_le o1.1
  have mx1 := owns_max o1.1
  unfold maxLen at mx1
  have cs1 := Own.cs o1
  have H1 := Lib.hid h1
  clear h1 o1
  by_cases he : errR l = 0
  · have hp := (errR_ok he).1
    rw [he]
    have HE := Lib.hid he
    have HP := Lib.hid (less1_false hp)
    have h4 := (errR_ok he).2
    have hfl := flatR_length l (less1_false hp)
    have HFL := Lib.hid (flatE_ok he)
    rw [← flatE_ok he, H1.out] at hfl
    clear he hp HC
    generalize ht : totR l = t at h4 hfl
    subst hfl
    have HT := Lib.hid ht
    clear ht
    by_cases hp0 : p < 0
    · have e1 : ok = false := by rw [← HOK.out]; unfold atOk; simp; omega
      have e2 : N = 0 := by rw [← HN.out]; unfold atN; rw [HOK.out, e1]; rfl
      have e3 : I = 0 := by rw [← HI.out]; unfold atI; rw [HOK.out, e1]; rfl
      subst e1 e2 e3
      go_wp2_with (first | (at_make; refine Stop.un ?_) | (at_builtin; refine Stop.un ?_) | (with_reducible refine Stop.conv 24 9 ?_) | (with_reducible refine Stop.conv 9 24 ?_))
      go_ret3
      exact ⟨rfl, b1⟩
    · by_cases hp1 : (n1 : Int) ≤ p
      · have e1 : ok = false := by rw [← HOK.out]; unfold atOk; simp; have := HT.out; omega
        have e2 : N = 0 := by rw [← HN.out]; unfold atN; rw [HOK.out, e1]; rfl
        have e3 : I = 0 := by rw [← HI.out]; unfold atI; rw [HOK.out, e1]; rfl
        subst e1 e2 e3
        go_wp2_with (first | (at_make; refine Stop.un ?_) | (at_builtin; refine Stop.un ?_) | (with_reducible refine Stop.conv 24 9 ?_) | (with_reducible refine Stop.conv 9 24 ?_))
        go_ret3
        exact ⟨rfl, b1⟩
      · have e1 : ok = true := by rw [← HOK.out]; unfold atOk; simp; have := HT.out; have := HE.out; omega
        subst e1
        generalize hat : atGo l p 0 = q
        obtain ⟨qn, qi⟩ := q
        have HAT := Lib.hid hat
        have eN : qn = N := by rw [← HN.out]; unfold atN; rw [HOK.out, if_pos rfl, hat]
        have eI : qi = I := by rw [← HI.out]; unfold atI; rw [HOK.out, if_pos rfl, hat]
        clear hat
        subst eN eI
        have hc1 := hc.mono b1 (Nat.le_refl _)
        have HPF : Hid ((flatE l)[p.toNat]? = some qn) := Lib.hid (by
          have h := atGo_flat l p.toNat 0 HP.out (by have := HT.out; omega)
          rw [show ((p.toNat : Nat) : Int) = p by omega] at h
          rw [HFL.out, h, HAT.out])
        go_wp2_with (first | (at_make; refine Stop.un ?_) | (at_builtin; refine Stop.un ?_) | (with_reducible refine Stop.conv 24 9 ?_) | (with_reducible refine Stop.conv 9 24 ?_))
        go_loopw [9, 10] (fun run left wr => ∃ (j : Nat) (lf : Int), j ≤ m ∧ 0 ≤ lf ∧ lf ≤ p ∧ run = .int .i64 (j : Int) ∧ left = .int .i64 lf ∧ w1 = wr ∧ Hid (lf < totR (l.drop j)) ∧ Hid (atGo (l.drop j) lf j = (qn, qi))) (fun run _ _ => m - (intOf run).toNat)
        case atStart => exact ⟨0, p, by omega, by omega, by omega, rfl, rfl, rfl, Lib.hid (by rw [List.drop_zero, HT.out]; omega), HAT⟩
        case round =>
          obtain ⟨j, lf, hj, hlf0, hlf1, rfl, rfl, rfl, HL, HG⟩ := hrel
          have hjl := in_row HL.out hlf0
          have hjm : j < m := by have := HM.out; omega
          obtain ⟨b, o, rfl⟩ := hc.addr (by rw [rcells_length]; omega)
          obtain ⟨x0, x1⟩ := hc1.rat hjl
          have hg := HG.out
          rw [atGo_drop _ _ _ _ hjl] at hg
          have hl2 := HL.out
          rw [List.drop_eq_getElem_cons hjl, totR] at hl2
          have hk := HP.out l[j] (List.getElem_mem _)
          generalize l[j] = x at x0 x1 hg hl2 hk
          obtain ⟨n, k⟩ := x
          simp only at x0 x1 hg hl2 hk
          have HG2 := Lib.hid hg
          have HL2 := Lib.hid hl2
          clear hg hl2 hjl HL HG
          by_cases hkl : k ≤ lf
          · have HG3 := Lib.hid (HG2.out.symm.trans (if_pos hkl)).symm
            go_wp2_with (first | (at_make; refine Stop.un ?_) | (at_builtin; refine Stop.un ?_) | (with_reducible refine Stop.conv 24 9 ?_) | (with_reducible refine Stop.conv 9 24 ?_))
            go_roundw
            case rel => exact ⟨j + 1, lf - k, by omega, by omega, by omega, by go_num, rfl, trivial, Lib.hid (by have := HL2.out; omega), Lib.hid (by rw [← HG3.out]; simp)⟩
            case measure => simp [intOf]; omega
          · have h3 := HG2.out.symm.trans (if_neg hkl)
            simp only [Prod.mk.injEq] at h3
            obtain ⟨e1, e2⟩ := h3
            subst e1 e2
            clear HG2
            have hfx := HPF.out
            obtain ⟨q, rfl⟩ : ∃ q : Nat, p = q := ⟨p.toNat, by omega⟩
            rw [Int.toNat_natCast] at hfx
            have hq1 : q < n1 := by omega
            obtain ⟨b', o', rfl⟩ := cs1.addr (by rw [icells_length, H1.out]; omega)
            have xc : w1.cell? ⟨b', o' + q, none⟩ = some (.int .i64 qn) := cs1.at (by simp [icells, hfx])
            clear hfx
            go_wp2_with (first | (at_make; refine Stop.un ?_) | (at_builtin; refine Stop.un ?_) | (with_reducible refine Stop.conv 24 9 ?_) | (with_reducible refine Stop.conv 9 24 ?_))
            go_ret3
            exact ⟨rfl, b1⟩
  · have e1 : ok = false := by rw [← HOK.out]; unfold atOk; simp [he]
    have e2 : N = 0 := by rw [← HN.out]; unfold atN; rw [HOK.out, e1]; rfl
    have e3 : I = 0 := by rw [← HI.out]; unfold atI; rw [HOK.out, e1]; rfl
    subst e1 e2 e3
    have hne : (errR l != 0) = true := by simpa using he
    clear he HC
    generalize errR l = E at hne
    go_wp2_with (first | (at_make; refine Stop.un ?_) | (at_builtin; refine Stop.un ?_) | (with_reducible refine Stop.conv 24 9 ?_) | (with_reducible refine Stop.conv 9 24 ?_))
    go_ret3
    exact ⟨rfl, b1⟩
end Go.Proofs.Ytkgcjafediimnaa
