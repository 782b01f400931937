/- The numbers of runs: what the reference returns; whether runs may be. -/
import Derived.Test.YtkgcjafediimnaaRFlat
import Derived.Test.YtkgcjafediimnaaRROf
import Derived.Test.YtkgcjafediimnaaRSame
import Derived.Test.YtkgcjafediimnaaRAt
set_option linter.unusedVariables false
set_option linter.unusedSimpArgs false
namespace Go.Proofs.Ytkgcjafediimnaa
open Go.RowKit
set_option maxHeartbeats 4000000 in
theorem rflat_any (ao : Option Addr) (m cap : Nat) (l : List Rn) (w : World) (hc : Cs w ao (rcells l)) (hm : l.length = m) (hl : m ≤ cap) (hcm : cap ≤ maxLen) :
    Calls Try.prog 18 #[.slice ao m cap] w (RetF w (flatE l) (errR l)) := by
  have HM := Lib.hid hm
  unfold maxLen at hcm
  clear hm
  generalize hL : flatE l = L
  generalize hE : errR l = E
  have HL := Lib.hid hL
  have HE := Lib.hid hE
  clear hL hE
  go_enter Try.func18, Try.ntmps18
  go_wp2_with (first | (at_make; refine Stop.un ?_) | (at_builtin; refine Stop.un ?_) | (with_reducible refine Stop.conv 24 9 ?_) | (with_reducible refine Stop.conv 9 24 ?_))
  go_loopw [4] (fun i wr => ∃ j : Nat, j ≤ m ∧ i = .int .i64 (j : Int) ∧ w = wr ∧ Hid (less1 (l.take j) = false)) (fun i _ => m - (intOf i).toNat)
  case atStart => exact ⟨0, by omega, rfl, rfl, Lib.hid rfl⟩
  case round =>
    obtain ⟨j, hj, rfl, rfl, HI⟩ := hrel
    by_cases hlt : j < m
    · have hjl : j < l.length := by have := HM.out; omega
      obtain ⟨b, o, rfl⟩ := hc.addr (by rw [rcells_length]; omega)
      obtain ⟨x0, x1⟩ := hc.rat hjl
      have h1 : less1 (l.take (j + 1)) = decide (l[j].k < 1) := by
        rw [List.take_succ_eq_append_getElem hjl]
        have := HI.out
        unfold less1 at this ⊢
        rw [List.any_append, this]; simp
      have h2 : decide (l[j].k < 1) = true → less1 l = true := fun h => List.any_eq_true.2 ⟨l[j], List.getElem_mem _, h⟩
      generalize l[j] = x at x0 x1 h1 h2
      obtain ⟨n, k⟩ := x
      simp only at x0 x1 h1 h2
      have H1 := Lib.hid h1
      have H2 := Lib.hid h2
      clear h1 h2 hjl HI
      by_cases hk : k < 1
      · have h3 := H2.out (by simpa using hk)
        have e1 : E = 1 := by rw [← HE.out]; unfold errR; rw [h3]; rfl
        have e2 : L = [] := by rw [← HL.out]; exact flatE_no (by rw [HE.out, e1]; decide)
        subst e1 e2
        clear h3
        go_wp2_with (first | (at_make; refine Stop.un ?_) | (at_builtin; refine Stop.un ?_) | (with_reducible refine Stop.conv 24 9 ?_) | (with_reducible refine Stop.conv 9 24 ?_))
        go_ret2
        exact ⟨none, 0, 0, rfl, rfl, Own.nil _ _ (Below.refl _ _)⟩
      · have H3 := Lib.hid (H1.out.trans (decide_eq_false hk))
        go_wp2_with (first | (at_make; refine Stop.un ?_) | (at_builtin; refine Stop.un ?_) | (with_reducible refine Stop.conv 24 9 ?_) | (with_reducible refine Stop.conv 9 24 ?_))
        go_roundw
        case rel => exact ⟨j + 1, by omega, by go_num, trivial, H3⟩
        case measure => simp [intOf]; omega
    · have hjm : j = m := by omega
      have h := HI.out
      rw [List.take_of_length_le (by have := HM.out; omega)] at h
      have HP := Lib.hid h
      clear h HI hlt hj
      subst hjm
      go_wp2_with (first | (at_make; refine Stop.un ?_) | (at_builtin; refine Stop.un ?_) | (with_reducible refine Stop.conv 24 9 ?_) | (with_reducible refine Stop.conv 9 24 ?_))
      go_loopw [5, 6, 7] (fun v i _ wr => ∃ (q k : Nat) (ab : Option Addr) (cb : Nat), q ≤ j ∧ i = .int .i64 (q : Int) ∧ v = .slice ab k cb ∧ k ≤ 4096 ∧ OwnI w wr (.slice ab k cb) k (flatR (l.take q)) ∧ Hid ((k : Int) = totR (l.take q))) (fun _ i _ _ => j - (intOf i).toNat)
      case atStart => exact ⟨0, 0, none, 0, by omega, rfl, rfl, by omega, Own.nil _ _ (Below.refl _ _), Lib.hid rfl⟩
      case round =>
        obtain ⟨q, k, ab, cb, hq, rfl, rfl, hk, hO, HQ⟩ := hrel
        by_cases hlt : q < j
        · have hql : q < l.length := by have := HM.out; omega
          obtain ⟨b, o, rfl⟩ := hc.addr (by rw [rcells_length]; omega)
          obtain ⟨x0, x1⟩ := (hc.mono (Own.below hO) (Nat.le_refl _)).rat hql
          have hst := flatR_step l q hql
          have htk : totR (l.take (q + 1)) = k + l[q].k := by rw [List.take_succ_eq_append_getElem hql, totR_append, ← HQ.out]; simp [totR]
          have htl := (totR_take l (q + 1) HP.out).2
          rw [htk] at htl
          have hp := less1_false HP.out l[q] (List.getElem_mem _)
          have hlq : l[q]? = some l[q] := List.getElem?_eq_getElem hql
          generalize l[q] = x at x0 x1 hst hp htk htl hlq
          obtain ⟨n, c⟩ := x
          simp only at x0 x1 hst hp htk htl
          obtain ⟨c, rfl⟩ : ∃ z : Nat, c = z := ⟨c.toNat, by omega⟩
          rw [Int.toNat_natCast] at hst
          have HST := Lib.hid hst
          have HTK := Lib.hid htk
          have HTL := Lib.hid htl
          have HLQ := Lib.hid hlq
          clear hst htk htl hlq
          by_cases hbig : 4096 - (k : Int) < c
          · have e1 : E = 3 := by rw [← HE.out, errR_eq _ HP.out, if_pos (by have := HTL.out; omega)]
            have e2 : L = [] := by rw [← HL.out]; exact flatE_no (by rw [HE.out, e1]; decide)
            subst e1 e2
            have b1 := Own.below hO
            clear hO
            go_wp2_with (first | (at_make; refine Stop.un ?_) | (at_builtin; refine Stop.un ?_) | (with_reducible refine Stop.conv 24 9 ?_) | (with_reducible refine Stop.conv 9 24 ?_))
            go_ret2
            exact ⟨none, 0, 0, rfl, rfl, Own.nil _ _ b1⟩
          · have hkc : k + c ≤ 4096 := by omega
            have hbig2 : decide (4096 - (k : Int) < c) = false := by simpa using hbig
            generalize flatR (l.take q) = acc at hO HST
            clear hbig
            go_wp2_with (first | (at_make; refine Stop.un ?_) | (at_builtin; refine Stop.un ?_) | (with_reducible refine Stop.conv 24 9 ?_) | (with_reducible refine Stop.conv 9 24 ?_))
            clear x0 x1
            go_loopw [5, 7] (fun v i wr => ∃ (i' k' : Nat) (ab' : Option Addr) (cb' : Nat), i' ≤ c ∧ i = .int .i64 (i' : Int) ∧ v = .slice ab' k' cb' ∧ OwnI w wr (.slice ab' k' cb') k' (acc ++ List.replicate i' n) ∧ Hid (k' = k + i')) (fun _ i _ => c - (intOf i).toNat)
            case atStart => exact ⟨0, k, ab, cb, by omega, rfl, rfl, by rw [List.replicate_zero, List.append_nil]; exact hO, Lib.hid rfl⟩
            case round =>
              clear hO
              obtain ⟨i, k2, ab2, cb2, hi, rfl, rfl, hO, HK⟩ := hrel
              obtain ⟨hql, hxe⟩ := List.getElem?_eq_some_iff.1 HLQ.out
              obtain ⟨x0, x1⟩ := (hc.mono (Own.below hO) (Nat.le_refl _)).rat hql
              rw [hxe] at x0 x1
              simp only at x0 x1
              clear hql hxe
              have hk2 : k2 ≤ 4096 := by have := HK.out; omega
              by_cases hlt2 : i < c
              · have hk3 : k2 + 1 ≤ 4096 := by have := HK.out; omega
                go_wp2_with (first | (at_make; refine Stop.un ?_) | (at_builtin; refine Stop.un ?_) | (with_reducible refine Stop.conv 24 9 ?_) | (with_reducible refine Stop.conv 9 24 ?_))
                refine Stop.mk (app_i1 w _ _ rfl rfl hO rfl rfl (by omega) ?_)
                intro a3 c3 w3 hO3 _ _
                rw [List.append_assoc, ← repl_more] at hO3
                clear hO x0 x1
                go_wp2_with (first | (at_make; refine Stop.un ?_) | (at_builtin; refine Stop.un ?_) | (with_reducible refine Stop.conv 24 9 ?_) | (with_reducible refine Stop.conv 9 24 ?_))
                go_roundw
                case rel => exact ⟨i + 1, k2 + 1, a3, c3, by omega, by go_num, rfl, hO3, Lib.hid (by have := HK.out; omega)⟩
                case measure => simp [intOf]; omega
              · have hic : i = c := by omega
                subst hic
                rw [← HST.out] at hO
                go_wp2_with (first | (at_make; refine Stop.un ?_) | (at_builtin; refine Stop.un ?_) | (with_reducible refine Stop.conv 24 9 ?_) | (with_reducible refine Stop.conv 9 24 ?_))
                go_roundw
                case rel => exact ⟨q + 1, k2, ab2, cb2, by omega, by go_num, rfl, hk2, hO, Lib.hid (by rw [HTK.out, HK.out]; omega)⟩
                case measure => simp [intOf]; omega
        · have hqj : q = j := by omega
          subst hqj
          rw [List.take_of_length_le (by have := HM.out; omega)] at hO
          have hq2 := HQ.out
          rw [List.take_of_length_le (by have := HM.out; omega)] at hq2
          have e1 : E = 0 := by rw [← HE.out, errR_eq _ HP.out, if_neg (by omega)]
          have e2 : L = flatR l := by rw [← HL.out]; exact flatE_ok (by rw [HE.out, e1])
          subst e1
          rw [← e2] at hO
          clear e2 hq2 HQ
          go_wp2_with (first | (at_make; refine Stop.un ?_) | (at_builtin; refine Stop.un ?_) | (with_reducible refine Stop.conv 24 9 ?_) | (with_reducible refine Stop.conv 9 24 ?_))
          go_ret2
          exact ⟨_, _, _, OwnI.length hO, rfl, hO⟩
end Go.Proofs.Ytkgcjafediimnaa
