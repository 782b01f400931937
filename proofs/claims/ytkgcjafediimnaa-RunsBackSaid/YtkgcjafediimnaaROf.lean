/- Numbers as runs: what the program returns. -/
import Derived.Test.YtkgcjafediimnaaRunC
import Derived.Test.YtkgcjafediimnaaMix
set_option linter.unusedVariables false
set_option linter.unusedSimpArgs false
namespace Go.Proofs.Ytkgcjafediimnaa
open Go.RowKit
/-- Runs of the call's own. -/
def RetR (w : World) (l : List Rn) : Ending → World → Prop := fun e w' => ∃ (ao : Option Addr) (n cap : Nat), l.length = n ∧ e = .returned (.slice ao n cap) ∧ OwnR w w' (.slice ao n cap) n l
set_option maxHeartbeats 2000000 in
theorem of_any (ao : Option Addr) (m cap : Nat) (l : List Int) (w : World) (hc : Cs w ao (icells l)) (hm : l.length = m) (hl : m ≤ cap) (hcm : cap ≤ maxLen) (hmb : m ≤ 5000) :
    Calls Try.prog 13 #[.slice ao m cap] w (RetR w (ofR l)) := by
  unfold maxLen at hcm
  have HM := Lib.hid hm
  have HL := Lib.hid (ofR_length l)
  clear hm
  go_enter Try.func13, Try.ntmps13
  go_wp2_with (first | (at_make; refine Stop.un ?_) | (at_builtin; refine Stop.un ?_) | (with_reducible refine Stop.conv 24 9 ?_) | (with_reducible refine Stop.conv 9 24 ?_))
  go_loopw [3, 4, 5, 8] (fun v f p i wr => ∃ (j fr k : Nat) (ab : Option Addr) (cb : Nat) (out : List Rn), j ≤ m ∧ fr ≤ j ∧ k ≤ j ∧ i = .int .i64 (j : Int) ∧ f = .int .i64 (fr : Int) ∧ v = .slice ab k cb ∧ OwnR w wr (.slice ab k cb) k out ∧ Hid (out ++ addR (j - fr : Int) (ofR (l.drop j)) = ofR l)) (fun _ _ _ i _ => m - (intOf i).toNat)
  case atStart => exact ⟨0, 0, 0, none, 0, [], by omega, by omega, by omega, rfl, rfl, rfl, Own.nil _ _ (Below.refl _ _), Lib.hid (by simp [addR_zero])⟩
  case round =>
    obtain ⟨j, fr, k, ab, cb, out, hj, hfr, hk, rfl, rfl, rfl, hO, HI⟩ := hrel
    by_cases hlt : j < m
    · have hjl : j < l.length := by have := HM.out; omega
      obtain ⟨b, o, rfl⟩ := hc.addr (by rw [icells_length]; omega)
      have hc1 := (hc.mono (Own.below hO) (Nat.le_refl _)).iat hjl
      have hi := HI.out
      rw [List.drop_eq_getElem_cons hjl] at hi
      by_cases hl1 : j + 1 = m
      · have hnil : l.drop (j + 1) = [] := List.drop_of_length_le (by have := HM.out; omega)
        rw [of_end _ _ _ (by rw [hnil]; intro y hy; simp at hy)] at hi
        generalize l[j] = x at hc1 hi
        have HI2 := Lib.hid hi
        have hb1 : (((j : Int) + 1) == (m : Int)) = true := by simp; omega
        clear hi HI hnil hjl hl1
        go_wp2_with (first | (at_make; refine Stop.un ?_) | (at_builtin; refine Stop.un ?_) | (with_reducible refine Stop.conv 24 9 ?_) | (with_reducible refine Stop.conv 9 24 ?_))
        refine mix_startE 17 rfl (by kernel_rfl) ?_
        intro xq hxq
        replace hO := Own.keep hO hxq
        replace hc1 := Ext.cell hxq hc1
        clear hxq
        refine mix_quiet Keeps.ext 0 rfl (by kernel_rfl) rfl ?_
        intro ι U hne hU
        go_big_quiet_op
        clear hU hne U ι
        show wpAnyM _ _ _ _ _ _ _ _ _
        refine mix_quiet Keeps.ext 1 rfl (by kernel_rfl) rfl ?_
        intro ι U hne hU
        go_big_quiet_op
        clear hU hne U ι
        show wpAnyM _ _ _ _ _ _ _ _ _
        refine mix_quiet Keeps.ext 2 rfl (by kernel_rfl) rfl ?_
        intro ι U hne hU
        go_big_quiet_op
        clear hU hne U ι
        show wpAnyM _ _ _ _ _ _ _ _ _
        refine mix_quiet Keeps.ext 3 rfl (by kernel_rfl) rfl ?_
        intro ι U hne hU
        go_big_quiet_op
        clear hU hne U ι
        show wpAnyM _ _ _ _ _ _ _ _ _
        refine mix_quiet Keeps.ext 4 rfl (by kernel_rfl) rfl ?_
        intro ι U hne hU
        go_big_quiet_op
        clear hU hne U ι
        show wpAnyM _ _ _ _ _ _ _ _ _
        refine mix_quiet Keeps.ext 5 rfl (by kernel_rfl) rfl ?_
        intro ι U hne hU
        go_big_quiet_op
        clear hU hne U ι
        show wpAnyM _ _ _ _ _ _ _ _ _
        refine mix_skip Keeps.ext 6 rfl (by kernel_rfl) rfl ?_
        go_big_quiet_skip
        refine wpQuiet_nil ?_
        show wpAnyM _ _ _ _ _ _ _ _ _
        refine mix_skip Keeps.ext 7 rfl (by kernel_rfl) rfl ?_
        go_big_quiet_skip
        refine wpQuiet_nil ?_
        show wpAnyM _ _ _ _ _ _ _ _ _
        refine mix_skip Keeps.ext 8 rfl (by kernel_rfl) rfl ?_
        go_big_quiet_skip
        refine wpQuiet_nil ?_
        show wpAnyM _ _ _ _ _ _ _ _ _
        refine mix_skip Keeps.ext 9 rfl (by kernel_rfl) rfl ?_
        go_big_quiet_skip
        refine wpQuiet_nil ?_
        show wpAnyM _ _ _ _ _ _ _ _ _
        refine mix_skip Keeps.ext 10 rfl (by kernel_rfl) rfl ?_
        go_big_quiet_skip
        refine wpQuiet_nil ?_
        show wpAnyM _ _ _ _ _ _ _ _ _
        refine mix_skip Keeps.ext 11 rfl (by kernel_rfl) rfl ?_
        go_big_quiet_skip
        refine wpQuiet_nil ?_
        show wpAnyM _ _ _ _ _ _ _ _ _
        refine mix_skip Keeps.ext 12 rfl (by kernel_rfl) rfl ?_
        go_big_quiet_skip
        refine wpQuiet_nil ?_
        show wpAnyM _ _ _ _ _ _ _ _ _
        refine mix_skip Keeps.ext 13 rfl (by kernel_rfl) rfl ?_
        go_big_quiet_skip
        refine wpQuiet_nil ?_
        show wpAnyM _ _ _ _ _ _ _ _ _
        refine mix_skip Keeps.ext 14 rfl (by kernel_rfl) rfl ?_
        go_big_quiet_skip
        refine wpQuiet_nil ?_
        show wpAnyM _ _ _ _ _ _ _ _ _
        refine mix_skip Keeps.ext 15 rfl (by kernel_rfl) rfl ?_
        go_big_quiet_skip
        refine wpQuiet_nil ?_
        show wpAnyM _ _ _ _ _ _ _ _ _
        refine mix_quiet Keeps.ext 16 rfl (by kernel_rfl) rfl ?_
        intro ι U hne hU
        go_big_quiet_op
        clear hU hne U ι
        show wpAnyM _ _ _ _ _ _ _ _ _
        refine mix_end (by kernel_rfl) ?_
        go_wp2_with (first | (at_make; refine Stop.un ?_) | (at_builtin; refine Stop.un ?_) | (with_reducible refine Stop.conv 24 9 ?_) | (with_reducible refine Stop.conv 9 24 ?_))
        refine Stop.mk (app_r1 w _ _ rfl rfl hO rfl rfl (by omega) ?_)
        intro a3 c3 w3 hO3 _ _
        clear hO
        go_wp2_with (first | (at_make; refine Stop.un ?_) | (at_builtin; refine Stop.un ?_) | (with_reducible refine Stop.conv 24 9 ?_) | (with_reducible refine Stop.conv 9 24 ?_))
        go_roundw
        case rel => exact ⟨j + 1, j + 1, k + 1, a3, c3, _, by omega, by omega, by omega, by go_num, by go_num, rfl, hO3, Lib.hid (by rw [← HI2.out, show (((j + 1 : Nat) : Int) - (j + 1 : Nat)) = 0 by omega, addR_zero]; simp [show (j : Int) + 1 - fr = j - fr + 1 by omega])⟩
        case measure => simp [intOf]; omega
      · have hj2 : j + 1 < l.length := by have := HM.out; omega
        have hlt2 : j + 1 < m := by omega
        have hc2 := (hc.mono (Own.below hO) (Nat.le_refl _)).iat hj2
        have hc3 := hc2
        rw [← Nat.add_assoc] at hc3
        have hhd : (l.drop (j + 1)).head? = some l[j + 1] := by rw [List.drop_eq_getElem_cons hj2]; rfl
        have hb1 : (((j : Int) + 1) == (m : Int)) = false := by simp; omega
        by_cases hxy : l[j + 1] = l[j]
        · rw [of_more _ _ _ (by rw [hhd, hxy])] at hi
          rw [hxy] at hc2 hc3
          generalize l[j] = x at hc1 hc2 hc3 hi
          have HI2 := Lib.hid hi
          have hb2 : (x != x) = false := by simp
          clear hi HI hhd hxy hj2 hjl hl1
          go_wp2_with (first | (at_make; refine Stop.un ?_) | (at_builtin; refine Stop.un ?_) | (with_reducible refine Stop.conv 24 9 ?_) | (with_reducible refine Stop.conv 9 24 ?_))
          refine mix_startE 17 rfl (by kernel_rfl) ?_
          intro xq hxq
          replace hO := Own.keep hO hxq
          replace hc1 := Ext.cell hxq hc1
          replace hc2 := Ext.cell hxq hc2
          replace hc3 := Ext.cell hxq hc3
          clear hxq
          refine mix_quiet Keeps.ext 0 rfl (by kernel_rfl) rfl ?_
          intro ι U hne hU
          go_big_quiet_op
          clear hU hne U ι
          show wpAnyM _ _ _ _ _ _ _ _ _
          refine mix_quiet Keeps.ext 1 rfl (by kernel_rfl) rfl ?_
          intro ι U hne hU
          go_big_quiet_op
          clear hU hne U ι
          show wpAnyM _ _ _ _ _ _ _ _ _
          refine mix_quiet Keeps.ext 2 rfl (by kernel_rfl) rfl ?_
          intro ι U hne hU
          go_big_quiet_op
          clear hU hne U ι
          show wpAnyM _ _ _ _ _ _ _ _ _
          refine mix_quiet Keeps.ext 3 rfl (by kernel_rfl) rfl ?_
          intro ι U hne hU
          go_big_quiet_op
          clear hU hne U ι
          show wpAnyM _ _ _ _ _ _ _ _ _
          refine mix_quiet Keeps.ext 4 rfl (by kernel_rfl) rfl ?_
          intro ι U hne hU
          go_big_quiet_op
          clear hU hne U ι
          show wpAnyM _ _ _ _ _ _ _ _ _
          refine mix_quiet Keeps.ext 5 rfl (by kernel_rfl) rfl ?_
          intro ι U hne hU
          go_big_quiet_op
          clear hU hne U ι
          show wpAnyM _ _ _ _ _ _ _ _ _
          refine mix_quiet Keeps.ext 6 rfl (by kernel_rfl) rfl ?_
          intro ι U hne hU
          go_big_quiet_op
          clear hU hne U ι
          show wpAnyM _ _ _ _ _ _ _ _ _
          refine mix_quiet Keeps.ext 7 rfl (by kernel_rfl) rfl ?_
          intro ι U hne hU
          go_big_quiet_op
          clear hU hne U ι
          show wpAnyM _ _ _ _ _ _ _ _ _
          refine mix_quiet Keeps.ext 8 rfl (by kernel_rfl) rfl ?_
          intro ι U hne hU
          go_big_quiet_op
          clear hU hne U ι
          show wpAnyM _ _ _ _ _ _ _ _ _
          refine mix_quiet Keeps.ext 9 rfl (by kernel_rfl) rfl ?_
          intro ι U hne hU
          go_big_quiet_op
          clear hU hne U ι
          show wpAnyM _ _ _ _ _ _ _ _ _
          refine mix_quiet Keeps.ext 10 rfl (by kernel_rfl) rfl ?_
          intro ι U hne hU
          have hcw0 := fun ii => (hU ii).cell hc1
          have hcw1 := fun ii => (hU ii).cell hc2
          have hcw2 := fun ii => (hU ii).cell hc3
          go_big_quiet_op
          clear hU hne hcw0 hcw1 hcw2 U ι
          show wpAnyM _ _ _ _ _ _ _ _ _
          refine mix_quiet Keeps.ext 11 rfl (by kernel_rfl) rfl ?_
          intro ι U hne hU
          go_big_quiet_op
          clear hU hne U ι
          show wpAnyM _ _ _ _ _ _ _ _ _
          refine mix_quiet Keeps.ext 12 rfl (by kernel_rfl) rfl ?_
          intro ι U hne hU
          go_big_quiet_op
          clear hU hne U ι
          show wpAnyM _ _ _ _ _ _ _ _ _
          refine mix_quiet Keeps.ext 13 rfl (by kernel_rfl) rfl ?_
          intro ι U hne hU
          go_big_quiet_op
          clear hU hne U ι
          show wpAnyM _ _ _ _ _ _ _ _ _
          refine mix_quiet Keeps.ext 14 rfl (by kernel_rfl) rfl ?_
          intro ι U hne hU
          have hcw0 := fun ii => (hU ii).cell hc1
          have hcw1 := fun ii => (hU ii).cell hc2
          have hcw2 := fun ii => (hU ii).cell hc3
          go_big_quiet_op
          clear hU hne hcw0 hcw1 hcw2 U ι
          show wpAnyM _ _ _ _ _ _ _ _ _
          refine mix_quiet Keeps.ext 15 rfl (by kernel_rfl) rfl ?_
          intro ι U hne hU
          go_big_quiet_op
          clear hU hne U ι
          show wpAnyM _ _ _ _ _ _ _ _ _
          refine mix_quiet Keeps.ext 16 rfl (by kernel_rfl) rfl ?_
          intro ι U hne hU
          go_big_quiet_op
          clear hU hne U ι
          show wpAnyM _ _ _ _ _ _ _ _ _
          refine mix_end (by kernel_rfl) ?_
          go_wp2_with (first | (at_make; refine Stop.un ?_) | (at_builtin; refine Stop.un ?_) | (with_reducible refine Stop.conv 24 9 ?_) | (with_reducible refine Stop.conv 9 24 ?_))
          go_roundw
          case rel => exact ⟨j + 1, fr, k, ab, cb, _, by omega, by omega, by omega, by go_num, rfl, rfl, hO, Lib.hid (by rw [← HI2.out]; congr 2; omega)⟩
          case measure => simp [intOf]; omega
        · rw [of_end _ _ _ (by rw [hhd]; intro y hy; simp at hy; subst hy; exact hxy)] at hi
          generalize l[j] = x at hc1 hi hxy
          generalize l[j + 1] = y at hc2 hc3 hxy
          have HI2 := Lib.hid hi
          have hb2 : (y != x) = true := by simpa using hxy
          clear hi HI hhd hj2 hjl hl1 hxy
          go_wp2_with (first | (at_make; refine Stop.un ?_) | (at_builtin; refine Stop.un ?_) | (with_reducible refine Stop.conv 24 9 ?_) | (with_reducible refine Stop.conv 9 24 ?_))
          refine mix_startE 17 rfl (by kernel_rfl) ?_
          intro xq hxq
          replace hO := Own.keep hO hxq
          replace hc1 := Ext.cell hxq hc1
          replace hc2 := Ext.cell hxq hc2
          replace hc3 := Ext.cell hxq hc3
          clear hxq
          refine mix_quiet Keeps.ext 0 rfl (by kernel_rfl) rfl ?_
          intro ι U hne hU
          go_big_quiet_op
          clear hU hne U ι
          show wpAnyM _ _ _ _ _ _ _ _ _
          refine mix_quiet Keeps.ext 1 rfl (by kernel_rfl) rfl ?_
          intro ι U hne hU
          go_big_quiet_op
          clear hU hne U ι
          show wpAnyM _ _ _ _ _ _ _ _ _
          refine mix_quiet Keeps.ext 2 rfl (by kernel_rfl) rfl ?_
          intro ι U hne hU
          go_big_quiet_op
          clear hU hne U ι
          show wpAnyM _ _ _ _ _ _ _ _ _
          refine mix_quiet Keeps.ext 3 rfl (by kernel_rfl) rfl ?_
          intro ι U hne hU
          go_big_quiet_op
          clear hU hne U ι
          show wpAnyM _ _ _ _ _ _ _ _ _
          refine mix_quiet Keeps.ext 4 rfl (by kernel_rfl) rfl ?_
          intro ι U hne hU
          go_big_quiet_op
          clear hU hne U ι
          show wpAnyM _ _ _ _ _ _ _ _ _
          refine mix_quiet Keeps.ext 5 rfl (by kernel_rfl) rfl ?_
          intro ι U hne hU
          go_big_quiet_op
          clear hU hne U ι
          show wpAnyM _ _ _ _ _ _ _ _ _
          refine mix_quiet Keeps.ext 6 rfl (by kernel_rfl) rfl ?_
          intro ι U hne hU
          go_big_quiet_op
          clear hU hne U ι
          show wpAnyM _ _ _ _ _ _ _ _ _
          refine mix_quiet Keeps.ext 7 rfl (by kernel_rfl) rfl ?_
          intro ι U hne hU
          go_big_quiet_op
          clear hU hne U ι
          show wpAnyM _ _ _ _ _ _ _ _ _
          refine mix_quiet Keeps.ext 8 rfl (by kernel_rfl) rfl ?_
          intro ι U hne hU
          go_big_quiet_op
          clear hU hne U ι
          show wpAnyM _ _ _ _ _ _ _ _ _
          refine mix_quiet Keeps.ext 9 rfl (by kernel_rfl) rfl ?_
          intro ι U hne hU
          go_big_quiet_op
          clear hU hne U ι
          show wpAnyM _ _ _ _ _ _ _ _ _
          refine mix_quiet Keeps.ext 10 rfl (by kernel_rfl) rfl ?_
          intro ι U hne hU
          have hcw0 := fun ii => (hU ii).cell hc1
          have hcw1 := fun ii => (hU ii).cell hc2
          have hcw2 := fun ii => (hU ii).cell hc3
          go_big_quiet_op
          clear hU hne hcw0 hcw1 hcw2 U ι
          show wpAnyM _ _ _ _ _ _ _ _ _
          refine mix_quiet Keeps.ext 11 rfl (by kernel_rfl) rfl ?_
          intro ι U hne hU
          go_big_quiet_op
          clear hU hne U ι
          show wpAnyM _ _ _ _ _ _ _ _ _
          refine mix_quiet Keeps.ext 12 rfl (by kernel_rfl) rfl ?_
          intro ι U hne hU
          go_big_quiet_op
          clear hU hne U ι
          show wpAnyM _ _ _ _ _ _ _ _ _
          refine mix_quiet Keeps.ext 13 rfl (by kernel_rfl) rfl ?_
          intro ι U hne hU
          go_big_quiet_op
          clear hU hne U ι
          show wpAnyM _ _ _ _ _ _ _ _ _
          refine mix_quiet Keeps.ext 14 rfl (by kernel_rfl) rfl ?_
          intro ι U hne hU
          have hcw0 := fun ii => (hU ii).cell hc1
          have hcw1 := fun ii => (hU ii).cell hc2
          have hcw2 := fun ii => (hU ii).cell hc3
          go_big_quiet_op
          clear hU hne hcw0 hcw1 hcw2 U ι
          show wpAnyM _ _ _ _ _ _ _ _ _
          refine mix_quiet Keeps.ext 15 rfl (by kernel_rfl) rfl ?_
          intro ι U hne hU
          go_big_quiet_op
          clear hU hne U ι
          show wpAnyM _ _ _ _ _ _ _ _ _
          refine mix_quiet Keeps.ext 16 rfl (by kernel_rfl) rfl ?_
          intro ι U hne hU
          go_big_quiet_op
          clear hU hne U ι
          show wpAnyM _ _ _ _ _ _ _ _ _
          refine mix_end (by kernel_rfl) ?_
          go_wp2_with (first | (at_make; refine Stop.un ?_) | (at_builtin; refine Stop.un ?_) | (with_reducible refine Stop.conv 24 9 ?_) | (with_reducible refine Stop.conv 9 24 ?_))
          refine Stop.mk (app_r1 w _ _ rfl rfl hO rfl rfl (by omega) ?_)
          intro a3 c3 w3 hO3 _ _
          clear hO
          go_wp2_with (first | (at_make; refine Stop.un ?_) | (at_builtin; refine Stop.un ?_) | (with_reducible refine Stop.conv 24 9 ?_) | (with_reducible refine Stop.conv 9 24 ?_))
          go_roundw
          case rel => exact ⟨j + 1, j + 1, k + 1, a3, c3, _, by omega, by omega, by omega, by go_num, by go_num, rfl, hO3, Lib.hid (by rw [← HI2.out, show (((j + 1 : Nat) : Int) - (j + 1 : Nat)) = 0 by omega, addR_zero]; simp [show (j : Int) + 1 - fr = j - fr + 1 by omega])⟩
          case measure => simp [intOf]; omega
    · have hjm : j = m := by omega
      have hi := HI.out
      rw [List.drop_of_length_le (by have := HM.out; omega), ofR, addR, List.append_nil] at hi
      have HI2 := Lib.hid hi
      subst hjm
      clear hi HI
      go_wp2_with (first | (at_make; refine Stop.un ?_) | (at_builtin; refine Stop.un ?_) | (with_reducible refine Stop.conv 24 9 ?_) | (with_reducible refine Stop.conv 9 24 ?_))
      go_ret
      rw [← HI2.out]
      exact ⟨_, _, _, OwnR.length hO, rfl, hO⟩
end Go.Proofs.Ytkgcjafediimnaa
