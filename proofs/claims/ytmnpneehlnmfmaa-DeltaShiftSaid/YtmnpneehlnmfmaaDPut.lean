/- What delta.Put and the reference's Put return. -/
import Derived.Test.YtmnpneehlnmfmaaDStep
set_option linter.unusedVariables false
namespace Go.Proofs.Ytmnpneehlnmfmaa
open Go.RowKit
/-- Bytes of the call's own, and a kind. -/
def RetP (w : World) (l : List UInt8) (c : Int) : Ending → World → Prop := fun e w' =>
  ∃ (ao : Option Addr) (n cap : Nat), l.length = n ∧ e = .returned (.tuple #[.slice ao n cap, .int .i64 c]) ∧ OwnB w w' (.slice ao n cap) n l
theorem putGo_step (acc : List UInt8) (last n : Int) (l : List Int) (h : stp last n = true) : putGo acc last (n :: l) = putGo (acc ++ intB (n - last)) n l := by simp [putGo, h]
theorem putGo_stop (acc : List UInt8) (last n : Int) (l : List Int) (h : stp last n = false) : putGo acc last (n :: l) = none := by simp [putGo, h]
theorem intB_length (n : Int) : 1 ≤ (intB n).length ∧ (intB n).length ≤ 9 := numB_length _

set_option maxHeartbeats 1000000 in
theorem put_any (ao : Option Addr) (m cap : Nat) (zs : List Int) (w : World) (hc : Cs w ao (zs.map (Value.int .i64))) (hm : zs.length = m) (hl : m ≤ cap) (hcm : cap ≤ maxLen)
    (hwf : ∀ n ∈ zs, -9223372036854775808 ≤ n ∧ n ≤ 9223372036854775807) :
    Calls Try.prog 12 #[.slice ao m cap] w (RetP w (putR zs) (putC zs)) := by
  unfold maxLen at hcm
  by_cases h4 : m ≤ 4096
  · have hR : putR zs = (putO zs).getD [] := by unfold putR; rw [if_pos (by omega)]
    have hC : putC zs = putK (putO zs) := by unfold putC; rw [if_pos (by omega)]
    rw [hR, hC]; clear hR hC
    have HM := Lib.hid hm; clear hm
    have HW := Lib.hid hwf; clear hwf
    go_enter Try.func12, Try.ntmps12
    go_wp2_with (first | (at_make; refine Stop.un ?_) | (at_builtin; refine Stop.un ?_) | (with_reducible refine Stop.conv 28 9 ?_) | (with_reducible refine Stop.conv 9 28 ?_))
    refine (num_any none 0 0 [] (m : Int) _ (Cs.nil _ _) rfl (by decide) (by omega) (by omega)).mono ?_
    rintro e w1 ⟨a1, n1, c1, hn1, rfl, o1⟩
    rw [List.nil_append, Int.toNat_natCast] at hn1 o1
    have hle : n1 ≤ 9 := by rw [← hn1]; exact (numB_length m).2
    clear hn1
    go_wp2_with (first | (at_make; refine Stop.un ?_) | (at_builtin; refine Stop.un ?_) | (with_reducible refine Stop.conv 28 9 ?_) | (with_reducible refine Stop.conv 9 28 ?_))
    go_loopw [4, 5, 19] (fun v x c wr => ∃ (j k : Nat) (ab : Option Addr) (cb : Nat) (acc : List UInt8) (last : Int), j ≤ m ∧ k ≤ 9 + 9 * j ∧ -9223372036854775808 ≤ last ∧ last ≤ 9223372036854775807 ∧ c = .int .i64 (j : Int) ∧ x = .int .i64 last ∧ v = .slice ab k cb ∧ OwnB w wr (.slice ab k cb) k acc ∧ Hid (putGo acc last (zs.drop j) = putO zs)) (fun _ _ c _ => m - (intOf c).toNat)
    case atStart => exact ⟨0, n1, a1, c1, _, 0, by omega, by omega, by omega, by omega, rfl, rfl, rfl, o1, Lib.hid (by rw [putO, HM.out]; rfl)⟩
    case round =>
      clear o1 hle
      obtain ⟨j, k, ab, cb, acc, last, hj, hk, hl0, hl1, rfl, rfl, rfl, hO, HG⟩ := hrel
      by_cases hlt : j < m
      · have hjl : j < zs.length := by have := HM.out; omega
        obtain ⟨b, o, rfl⟩ := hc.addr (by rw [List.length_map]; omega)
        have hcell := (hc.mono (Own.below hO) (Nat.le_refl _)).at (j := j) (u := .int .i64 zs[j]) (by simp [hjl])
        obtain ⟨hn0, hn1⟩ := HW.out zs[j] (List.getElem_mem _)
        have hg := HG.out
        rw [List.drop_eq_getElem_cons hjl] at hg
        generalize zs[j] = n at hcell hn0 hn1 hg
        have hkl := Own.length hO
        clear HG hjl
        have HG := Lib.hid hg
        clear hg
        go_wp2_with (first | (at_make; refine Stop.un ?_) | (at_builtin; refine Stop.un ?_) | (with_reducible refine Stop.conv 28 9 ?_) | (with_reducible refine Stop.conv 9 28 ?_))
        refine (step_any last n _ hl0 hl1 hn0 hn1).mono ?_
        rintro e w2 ⟨rfl, rfl⟩
        cases hs : stp last n with
        | false =>
          have hnone := HG.out
          rw [putGo_stop _ _ _ _ hs] at hnone
          have e2 : stE last n = 8 := by unfold stE; rw [hs]; rfl
          rw [e2]
          have HN := Lib.hid hnone
          have b1 := Own.below hO
          clear hnone e2 hs HG hO hkl
          go_wp2_with (first | (at_make; refine Stop.un ?_) | (at_builtin; refine Stop.un ?_) | (with_reducible refine Stop.conv 28 9 ?_) | (with_reducible refine Stop.conv 9 28 ?_))
          go_ret2
          rw [← HN.out]
          exact ⟨none, 0, 0, rfl, rfl, Own.nil _ _ b1⟩
        | true =>
          have hg := HG.out
          rw [putGo_step _ _ _ _ hs] at hg
          have e1 : stN last n = n - last := by unfold stN; rw [hs]; rfl
          have e2 : stE last n = 0 := by unfold stE; rw [hs]; rfl
          have e3 : -9223372036854775808 ≤ n - last ∧ n - last ≤ 9223372036854775807 := of_decide_eq_true hs
          rw [e1, e2]
          have HG2 := Lib.hid hg
          have E3 := Lib.hid e3
          rw [bcells_length, Nat.mul_one] at hkl
          have HK := Lib.hid hkl
          clear hg e1 e2 e3 HG hkl hs
          go_wp2_with (first | (at_make; refine Stop.un ?_) | (at_builtin; refine Stop.un ?_) | (with_reducible refine Stop.conv 28 9 ?_) | (with_reducible refine Stop.conv 9 28 ?_))
          refine (int_any ab k cb acc (n - last) _ (Own.cs hO) HK.out (by omega) E3.out.1 E3.out.2).mono ?_
          rintro e w3 ⟨a3, k3, c3, h3, rfl, o3⟩
          have O3 := Own.up o3 (Own.below hO)
          have H3 := Lib.hid h3
          clear h3 hO o3
          go_wp2_with (first | (at_make; refine Stop.un ?_) | (at_builtin; refine Stop.un ?_) | (with_reducible refine Stop.conv 28 9 ?_) | (with_reducible refine Stop.conv 9 28 ?_))
          go_roundw
          case rel => exact ⟨j + 1, k3, a3, c3, _, n, by omega, by rw [← H3.out, List.length_append, HK.out]; have := (intB_length (n - last)).2; omega, hn0, hn1, by go_num, rfl, rfl, O3, HG2⟩
          case measure => simp [intOf]; omega
      · have hge : j = m := by omega
        subst hge
        have hg := HG.out
        rw [List.drop_of_length_le (by have := HM.out; omega), putGo] at hg
        have HG2 := Lib.hid hg
        clear hlt hj hg HG
        go_wp2_with (first | (at_make; refine Stop.un ?_) | (at_builtin; refine Stop.un ?_) | (with_reducible refine Stop.conv 28 9 ?_) | (with_reducible refine Stop.conv 9 28 ?_))
        go_ret2
        have hl := Own.length hO
        rw [bcells_length, Nat.mul_one] at hl
        rw [← HG2.out]
        exact ⟨_, _, _, hl, rfl, hO⟩
  · have hR : putR zs = [] := by unfold putR; rw [if_neg (by omega)]
    have hC : putC zs = 3 := by unfold putC; rw [if_neg (by omega)]
    rw [hR, hC]; clear hR hC hm
    go_enter Try.func12, Try.ntmps12
    go_wp2_with (first | (at_make; refine Stop.un ?_) | (at_builtin; refine Stop.un ?_) | (with_reducible refine Stop.conv 28 9 ?_) | (with_reducible refine Stop.conv 9 28 ?_))
    go_ret2
    exact ⟨none, 0, 0, rfl, rfl, Own.nil _ _ (Below.refl _ _)⟩

set_option maxHeartbeats 1000000 in
theorem rput_any (ao : Option Addr) (m cap : Nat) (zs : List Int) (w : World) (hc : Cs w ao (zs.map (Value.int .i64))) (hm : zs.length = m) (hl : m ≤ cap) (hcm : cap ≤ maxLen)
    (hwf : ∀ n ∈ zs, -9223372036854775808 ≤ n ∧ n ≤ 9223372036854775807) :
    Calls Try.prog 14 #[.slice ao m cap] w (RetP w (putR zs) (putC zs)) := by
  unfold maxLen at hcm
  by_cases h4 : m ≤ 4096
  · have hR : putR zs = (putO zs).getD [] := by unfold putR; rw [if_pos (by omega)]
    have hC : putC zs = putK (putO zs) := by unfold putC; rw [if_pos (by omega)]
    rw [hR, hC]; clear hR hC
    have HM := Lib.hid hm; clear hm
    have HW := Lib.hid hwf; clear hwf
    go_enter Try.func14, Try.ntmps14
    go_wp2_with (first | (at_make; refine Stop.un ?_) | (at_builtin; refine Stop.un ?_) | (with_reducible refine Stop.conv 28 9 ?_) | (with_reducible refine Stop.conv 9 28 ?_))
    refine (rnum_any none 0 0 [] (m : Int) _ (Cs.nil _ _) rfl (by decide) (by omega) (by omega)).mono ?_
    rintro e w1 ⟨a1, n1, c1, hn1, rfl, o1⟩
    rw [List.nil_append, Int.toNat_natCast] at hn1 o1
    have hle : n1 ≤ 9 := by rw [← hn1]; exact (numB_length m).2
    clear hn1
    go_wp2_with (first | (at_make; refine Stop.un ?_) | (at_builtin; refine Stop.un ?_) | (with_reducible refine Stop.conv 28 9 ?_) | (with_reducible refine Stop.conv 9 28 ?_))
    go_loopw [4, 5, 6] (fun v x c wr => ∃ (j k : Nat) (ab : Option Addr) (cb : Nat) (acc : List UInt8) (last : Int), j ≤ m ∧ k ≤ 9 + 9 * j ∧ -9223372036854775808 ≤ last ∧ last ≤ 9223372036854775807 ∧ c = .int .i64 (j : Int) ∧ x = .int .i64 last ∧ v = .slice ab k cb ∧ OwnB w wr (.slice ab k cb) k acc ∧ Hid (putGo acc last (zs.drop j) = putO zs)) (fun _ _ c _ => m - (intOf c).toNat)
    case atStart => exact ⟨0, n1, a1, c1, _, 0, by omega, by omega, by omega, by omega, rfl, rfl, rfl, o1, Lib.hid (by rw [putO, HM.out]; rfl)⟩
    case round =>
      clear o1 hle
      obtain ⟨j, k, ab, cb, acc, last, hj, hk, hl0, hl1, rfl, rfl, rfl, hO, HG⟩ := hrel
      by_cases hlt : j < m
      · have hjl : j < zs.length := by have := HM.out; omega
        obtain ⟨b, o, rfl⟩ := hc.addr (by rw [List.length_map]; omega)
        have hcell := (hc.mono (Own.below hO) (Nat.le_refl _)).at (j := j) (u := .int .i64 zs[j]) (by simp [hjl])
        obtain ⟨hn0, hn1⟩ := HW.out zs[j] (List.getElem_mem _)
        have hg := HG.out
        rw [List.drop_eq_getElem_cons hjl] at hg
        have hn := (show (zs.map (Value.int .i64))[j]? = some (.int .i64 zs[j]) by simp [hjl])
        generalize zs[j] = n at hcell hn0 hn1 hg hn
        have HN := Lib.hid hn
        clear hn
        have hkl := Own.length hO
        clear HG hjl
        have HG := Lib.hid hg
        clear hg
        go_wp2_with (first | (at_make; refine Stop.un ?_) | (at_builtin; refine Stop.un ?_) | (with_reducible refine Stop.conv 28 9 ?_) | (with_reducible refine Stop.conv 9 28 ?_))
        refine (rstep_any last n _ hl0 hl1 hn0 hn1).mono ?_
        rintro e w2 ⟨rfl, rfl⟩
        cases hs : stp last n with
        | false =>
          have hnone := HG.out
          rw [putGo_stop _ _ _ _ hs] at hnone
          have e2 : stE last n = 8 := by unfold stE; rw [hs]; rfl
          rw [e2]
          have HO := Lib.hid hnone
          have b1 := Own.below hO
          clear hnone e2 hs HG hO hkl
          go_wp2_with (first | (at_make; refine Stop.un ?_) | (at_builtin; refine Stop.un ?_) | (with_reducible refine Stop.conv 28 9 ?_) | (with_reducible refine Stop.conv 9 28 ?_))
          go_ret2
          rw [← HO.out]
          exact ⟨none, 0, 0, rfl, rfl, Own.nil _ _ b1⟩
        | true =>
          have hg := HG.out
          rw [putGo_step _ _ _ _ hs] at hg
          have e1 : stN last n = n - last := by unfold stN; rw [hs]; rfl
          have e2 : stE last n = 0 := by unfold stE; rw [hs]; rfl
          have e3 : -9223372036854775808 ≤ n - last ∧ n - last ≤ 9223372036854775807 := of_decide_eq_true hs
          rw [e1, e2]
          have HG2 := Lib.hid hg
          have E3 := Lib.hid e3
          rw [bcells_length, Nat.mul_one] at hkl
          have HK := Lib.hid hkl
          clear hg e1 e2 e3 HG hkl hs
          go_wp2_with (first | (at_make; refine Stop.un ?_) | (at_builtin; refine Stop.un ?_) | (with_reducible refine Stop.conv 28 9 ?_) | (with_reducible refine Stop.conv 9 28 ?_))
          refine (rint_any ab k cb acc (n - last) _ (Own.cs hO) HK.out (by omega) E3.out.1 E3.out.2).mono ?_
          rintro e w3 ⟨a3, k3, c3, h3, rfl, o3⟩
          have O3 := Own.up o3 (Own.below hO)
          have hcell3 := (hc.mono (Own.below O3) (Nat.le_refl _)).at (j := j) (u := .int .i64 n) HN.out
          have H3 := Lib.hid h3
          clear h3 hO o3
          go_wp2_with (first | (at_make; refine Stop.un ?_) | (at_builtin; refine Stop.un ?_) | (with_reducible refine Stop.conv 28 9 ?_) | (with_reducible refine Stop.conv 9 28 ?_))
          go_roundw
          case rel => exact ⟨j + 1, k3, a3, c3, _, n, by omega, by rw [← H3.out, List.length_append, HK.out]; have := (intB_length (n - last)).2; omega, hn0, hn1, by go_num, rfl, rfl, O3, HG2⟩
          case measure => simp [intOf]; omega
      · have hge : j = m := by omega
        subst hge
        have hg := HG.out
        rw [List.drop_of_length_le (by have := HM.out; omega), putGo] at hg
        have HG2 := Lib.hid hg
        clear hlt hj hg HG
        go_wp2_with (first | (at_make; refine Stop.un ?_) | (at_builtin; refine Stop.un ?_) | (with_reducible refine Stop.conv 28 9 ?_) | (with_reducible refine Stop.conv 9 28 ?_))
        go_ret2
        have hl := Own.length hO
        rw [bcells_length, Nat.mul_one] at hl
        rw [← HG2.out]
        exact ⟨_, _, _, hl, rfl, hO⟩
  · have hR : putR zs = [] := by unfold putR; rw [if_neg (by omega)]
    have hC : putC zs = 3 := by unfold putC; rw [if_neg (by omega)]
    rw [hR, hC]; clear hR hC hm
    go_enter Try.func14, Try.ntmps14
    go_wp2_with (first | (at_make; refine Stop.un ?_) | (at_builtin; refine Stop.un ?_) | (with_reducible refine Stop.conv 28 9 ?_) | (with_reducible refine Stop.conv 9 28 ?_))
    go_ret2
    exact ⟨none, 0, 0, rfl, rfl, Own.nil _ _ (Below.refl _ _)⟩
end Go.Proofs.Ytmnpneehlnmfmaa
