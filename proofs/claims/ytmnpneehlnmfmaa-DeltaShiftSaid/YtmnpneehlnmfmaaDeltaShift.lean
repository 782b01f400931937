/- DeltaShift. -/
import Derived.Test.YtmnpneehlnmfmaaDLay
import Derived.Test.YtmnpneehlnmfmaaDRise
import Derived.Test.YtmnpneehlnmfmaaDShiftP
import Derived.Test.YtmnpneehlnmfmaaInts
import Derived.Test.YtmnpneehlnmfmaaMore
set_option linter.unusedVariables false
namespace Go.Proofs.Ytmnpneehlnmfmaa
open Go.RowKit
set_option maxRecDepth 100000 in
set_option maxHeartbeats 4000000 in
theorem deltaShift_any (ao : Option Addr) (m cap : Nat) (zs : List Int) (by_ : Int) (w : World) (hc : Cs w ao (zs.map (Value.int .i32))) (hm : zs.length = m) (hl : m ≤ cap) (hcm : cap ≤ maxLen)
    (hwf : ∀ n ∈ zs, -2147483648 ≤ n ∧ n ≤ 2147483647) (hb0 : -2147483648 ≤ by_) (hb1 : by_ ≤ 2147483647) :
    Calls Try.prog 5 #[.slice ao m cap, .int .i32 by_] w (fun e w' => e = .returned (.bool true) ∧ Below w.heap.size w w') := by
  have hcap : cap ≤ 9223372036854775807 := hcm
  have HM := Lib.hid hm
  have HW := Lib.hid hwf
  clear hm hcm hwf
  go_enter Try.func5, Try.ntmps5
  go_wp2_with (first | (at_make; refine Stop.un ?_) | (at_builtin; refine Stop.un ?_) | (with_reducible refine Stop.conv 28 9 ?_) | (with_reducible refine Stop.conv 9 28 ?_))
  refine (shown_any _).mono ?_
  rintro e w1 ⟨rfl, b1⟩
  go_wp2_with (first | (at_make; refine Stop.un ?_) | (at_builtin; refine Stop.un ?_) | (with_reducible refine Stop.conv 28 9 ?_) | (with_reducible refine Stop.conv 9 28 ?_))
  go_loopw [6, 7, 26] (fun v u c wr => ∃ (j : Nat) (aa : Option Addr) (ca : Nat) (ab : Option Addr) (cb : Nat), j ≤ m ∧ j ≤ 500 ∧ c = .int .i64 (j : Int) ∧ v = .slice aa j ca ∧ u = .slice ab j cb ∧ OwnI w wr (.slice aa j ca) j (zs.take j) ∧ OwnI w wr (.slice ab j cb) j ((zs.take j).map (· + by_)) ∧ Apart (.slice aa j ca) (.slice ab j cb)) (fun _ _ c _ => m - (intOf c).toNat)
  case atStart => exact ⟨0, none, 0, none, 0, by omega, by omega, rfl, rfl, rfl, Own.nil _ _ b1, Own.nil _ _ b1, Apart.nil _⟩
  case round =>
    clear b1
    obtain ⟨j, aa, ca, ab, cb, hj, hj2, rfl, rfl, rfl, hA, hB, hap⟩ := hrel
    by_cases hgo : j < m ∧ j < 500
    · obtain ⟨hlt, h500⟩ := hgo
      have hjl : j < zs.length := by have := HM.out; omega
      obtain ⟨b, o, rfl⟩ := hc.addr (by rw [List.length_map]; omega)
      have hcell := (hc.mono (Own.below hA) (Nat.le_refl _)).at (j := j) (u := .int .i32 zs[j]) (by simp [hjl])
      obtain ⟨hn0, hn1⟩ := HW.out zs[j] (List.getElem_mem _)
      have ht : zs.take (j + 1) = zs.take j ++ [zs[j]] := by rw [List.take_succ_eq_append_getElem hjl]
      generalize zs[j] = n at hcell hn0 hn1 ht
      have HT := Lib.hid ht
      have HAp := Lib.hid hap
      clear hjl ht hap
      go_wp2_with (first | (at_make; refine Stop.un ?_) | (at_builtin; refine Stop.un ?_) | (with_reducible refine Stop.conv 28 9 ?_) | (with_reducible refine Stop.conv 9 28 ?_))
      refine Stop.mk (app_i1 w _ _ rfl rfl hA rfl rfl (by omega) ?_)
      intro a4 c4 w4 hA4 hg4 hk4
      have hB4 := Own.beside hB hg4 HAp.out.symm (Own.below hA4)
      have HAp4 := Lib.hid (Own.apart hB HAp.out.symm hk4)
      clear hA hB hg4 hk4
      go_wp2_with (first | (at_make; refine Stop.un ?_) | (at_builtin; refine Stop.un ?_) | (with_reducible refine Stop.conv 28 9 ?_) | (with_reducible refine Stop.conv 9 28 ?_))
      refine Stop.mk (app_i1 w _ _ rfl rfl hB4 rfl rfl (by omega) ?_)
      intro a5 c5 w5 hB5 hg5 hk5
      have hA5 := Own.beside hA4 hg5 HAp4.out.symm (Own.below hB5)
      have HAp5 := Lib.hid (Own.apart hA4 HAp4.out.symm hk5)
      clear hA4 hB4 hg5 hk5
      go_wp2_with (first | (at_make; refine Stop.un ?_) | (at_builtin; refine Stop.un ?_) | (with_reducible refine Stop.conv 28 9 ?_) | (with_reducible refine Stop.conv 9 28 ?_))
      go_roundw
      case rel => exact ⟨j + 1, a4, c4, a5, c5, by omega, by omega, by go_num, rfl, rfl, by rw [HT.out]; exact hA5, by rw [HT.out, List.map_append]; exact hB5, HAp5.out⟩
      case measure => simp [intOf] <;> omega
    · have hx : (j < m ∧ 500 ≤ j ∧ 0 < j) ∨ (¬ j < m ∧ 0 < j) ∨ (¬ j < m ∧ j = 0) := by omega
      have hjm := hj
      clear hgo
      have hLl : (zs.take j).length = j := by rw [List.length_take, HM.out]; omega
      have HR : Hid (∀ n ∈ zs.take j, -2147483648 ≤ n ∧ n ≤ 2147483647) := Lib.hid (fun n hn => HW.out n (List.mem_of_mem_take hn))
      generalize zs.take j = L at hA hB hLl HR
      have HL := Lib.hid hLl
      have HAc := Lib.hid (And.intro (owns_le hA.1) (owns_max hA.1))
      have HBc := Lib.hid (And.intro (owns_le hB.1) (owns_max hB.1))
      clear hLl hap
      rcases hx with ⟨hlt, h500, hj0⟩ | ⟨hlt, hj0⟩ | ⟨hlt, hj0⟩
      · have hj3 : j = 500 := by omega
        obtain ⟨b, o, rfl⟩ := hc.addr (by rw [List.length_map]; have := HM.out; omega)
        have hcell := (hc.mono (Own.below hA) (Nat.le_refl _)).at (j := j) (u := .int .i32 (zs.getD j 0)) (by have := HM.out; simp; rw [List.getElem?_eq_getElem (by omega)]; simp [show j < zs.length by omega])
        generalize zs.getD j 0 = n at hcell
        have hdec : decide (500 ≤ (j : Int)) = true := by simp; omega
        clear hj3
        have HP := Lib.hid (shift_law L by_ (by have := HL.out; omega) (by have := HL.out; omega) (fun n hn => by have := HR.out n hn; unfold Few; omega) (fun n hn => by have := HR.out n hn; unfold Few; omega))
        have hwA : ∀ n ∈ L, -9223372036854775808 ≤ n ∧ n ≤ 9223372036854775807 := fun n hn => by have := HR.out n hn; omega
        have hwB : ∀ n ∈ L.map (· + by_), -9223372036854775808 ≤ n ∧ n ≤ 9223372036854775807 := fun n hn => by
          obtain ⟨x, hx, rfl⟩ := List.mem_map.1 hn
          have := HR.out x hx; omega
        have HwA := Lib.hid hwA
        have HwB := Lib.hid hwB
        clear hwA hwB
        have ka := Own.cs hA
        have kb := Own.cs hB
        have b1 := Own.below hA
        clear hA hB
        have hj00 : ((j : Int) == 0) = false := by simp; omega
        go_wp2_with (first | (at_make; refine Stop.un ?_) | (at_builtin; refine Stop.un ?_) | (with_reducible refine Stop.conv 28 9 ?_) | (with_reducible refine Stop.conv 9 28 ?_))
        refine (put_any aa j ca L _ ka HL.out HAc.out.1 HAc.out.2 HwA.out).mono ?_
        rw [HP.out.1]
        rintro e w3 ⟨a3, n3, c3, h3, rfl, o3⟩
        have H3 := Lib.hid h3
        have l3 := Lib.hid (owns_le o3.1)
        have b3 := b1.next (Own.below o3)
        have ka3 := ka.mono (Own.below o3) (Nat.le_refl _)
        have kb3 := kb.mono (Own.below o3) (Nat.le_refl _)
        have kx3 := Own.cs o3
        clear h3 o3 b1 ka kb
        go_wp2_with (first | (at_make; refine Stop.un ?_) | (at_builtin; refine Stop.un ?_) | (with_reducible refine Stop.conv 28 9 ?_) | (with_reducible refine Stop.conv 9 28 ?_))
        refine (put_any ab j cb (L.map (· + by_)) _ kb3 (by rw [List.length_map]; exact HL.out) HBc.out.1 HBc.out.2 HwB.out).mono ?_
        rw [HP.out.2.1]
        rintro e w4 ⟨a4, n4, c4, h4, rfl, o4⟩
        have H4 := Lib.hid h4
        have l4 := Lib.hid (owns_le o4.1)
        have b4 := b3.next (Own.below o4)
        have ka4 := ka3.mono (Own.below o4) (Nat.le_refl _)
        have kb4 := kb3.mono (Own.below o4) (Nat.le_refl _)
        have kx4 := kx3.mono (Own.below o4) (Nat.le_refl _)
        have ky4 := Own.cs o4
        have q1 : 1 ≤ ca := by have := HAc.out; omega
        have q2 : 1 ≤ cb := by have := HBc.out; omega
        clear h4 o4 b3 ka3 kb3 kx3
        go_wp2_with (first | (at_make; refine Stop.un ?_) | (at_builtin; refine Stop.un ?_) | (with_reducible refine Stop.conv 28 9 ?_) | (with_reducible refine Stop.conv 9 28 ?_))
        have kp := Cs.take ka4 1
        rw [show (icells L).take 1 = icells (L.take 1) from (List.map_take ..).symm] at kp
        refine (put_any aa 1 ca (L.take 1) _ kp (by have := HL.out; rw [List.length_take]; omega) q1 HAc.out.2 (fun n hn => HwA.out n (List.mem_of_mem_take hn))).mono ?_
        rw [HP.out.2.2.1]
        rintro e w5 ⟨a5, n5, c5, h5, rfl, o5⟩
        have H5 := Lib.hid h5
        have b5 := b4.next (Own.below o5)
        have ka5 := ka4.mono (Own.below o5) (Nat.le_refl _)
        have kb5 := kb4.mono (Own.below o5) (Nat.le_refl _)
        have kx5 := kx4.mono (Own.below o5) (Nat.le_refl _)
        have ky5 := ky4.mono (Own.below o5) (Nat.le_refl _)
        clear h5 o5 b4 ka4 kb4 kx4 ky4 kp
        go_wp2_with (first | (at_make; refine Stop.un ?_) | (at_builtin; refine Stop.un ?_) | (with_reducible refine Stop.conv 28 9 ?_) | (with_reducible refine Stop.conv 9 28 ?_))
        have kq := Cs.take kb5 1
        rw [show (icells (L.map (· + by_))).take 1 = icells ((L.map (· + by_)).take 1) from (List.map_take ..).symm] at kq
        refine (put_any ab 1 cb ((L.map (· + by_)).take 1) _ kq (by have := HL.out; rw [List.length_take, List.length_map]; omega) q2 HBc.out.2 (fun n hn => HwB.out n (List.mem_of_mem_take hn))).mono ?_
        rw [HP.out.2.2.2.1]
        rintro e w6 ⟨a6, n6, c6, h6, rfl, o6⟩
        have H6 := Lib.hid h6
        have b6 := b5.next (Own.below o6)
        have ka6 := ka5.mono (Own.below o6) (Nat.le_refl _)
        have kb6 := kb5.mono (Own.below o6) (Nat.le_refl _)
        have kx6 := kx5.mono (Own.below o6) (Nat.le_refl _)
        have ky6 := ky5.mono (Own.below o6) (Nat.le_refl _)
        clear h6 o6 b5 ka5 kb5 kx5 ky5 kq
        go_wp2_with (first | (at_make; refine Stop.un ?_) | (at_builtin; refine Stop.un ?_) | (with_reducible refine Stop.conv 28 9 ?_) | (with_reducible refine Stop.conv 9 28 ?_))
        obtain ⟨i0, hi, hz0, hz1, hz2⟩ := info_parts Try.infoI64
        refine Stop.mk (wpList_make_full _ rfl _ _ 27 rfl w.heap.size 3 i0 (.int .i64 0) 1 Try.underlying27 hi hz0 hz1 _ _ _ _ j rfl rfl rfl rfl (by rw [hz2]; omega) (by unfold maxLen; omega) b6.size ?_)
        intro w7 o7 g7
        have b7 : Below _ _ w7 := (Below.refl _ _).grown g7 (Nat.le_refl _) (fun _ h => by cases h)
        have kz7 := owns_cs o7
        rw [show (madeCells (Value.int .i64 0).cells (j * 1)).toList = icells (List.replicate j 0) from by simp [icells, Value.cells, toList_madeCells_one]] at kz7
        have b8 := b6.next b7
        have ka7 := ka6.mono b7 (Nat.le_refl _)
        have kb7 := kb6.mono b7 (Nat.le_refl _)
        have kx7 := kx6.mono b7 (Nat.le_refl _)
        have ky7 := ky6.mono b7 (Nat.le_refl _)
        clear o7 g7 b7 b6 ka6 kb6 kx6 ky6 hi hz0 hz1 hz2 i0
        go_wp2_with (first | (at_make; refine Stop.un ?_) | (at_builtin; refine Stop.un ?_) | (with_reducible refine Stop.conv 28 9 ?_) | (with_reducible refine Stop.conv 9 28 ?_))
        refine (put_any _ j j (List.replicate j 0) _ kz7 (List.length_replicate) (Nat.le_refl _) (by unfold maxLen; omega) (fun n hn => by rw [List.eq_of_mem_replicate hn]; omega)).mono ?_
        have HP2 := HP.out
        rw [HL.out] at HP2
        rw [HP2.2.2.2.2.1]
        rintro e w9 ⟨a9, n9, c9, h9, rfl, o9⟩
        obtain ⟨i, k, d, s1, g1, g2, g3, s2, s3, s4, s5, s6⟩ := HP2.2.2.2.2.2
        rw [h9] at s1
        rw [H5.out] at s2 g2
        rw [H6.out] at s3 g3
        subst s1
        rw [H3.out] at s4
        rw [H4.out] at s5
        have b10 := b8.next (Own.below o9)
        have kA := ka7.mono (Own.below o9) (Nat.le_refl _)
        have kB := kb7.mono (Own.below o9) (Nat.le_refl _)
        have kX := kx7.mono (Own.below o9) (Nat.le_refl _)
        have kY := ky7.mono (Own.below o9) (Nat.le_refl _)
        have S6 := Lib.hid s6
        have S2 := Lib.hid s2
        have S3 := Lib.hid s3
        clear s2 s3
        clear h9 o9 b8 ka7 kb7 kx7 ky7 kz7 s6 HP2
        go_wp2_with (first | (at_make; refine Stop.un ?_) | (at_builtin; refine Stop.un ?_) | (with_reducible refine Stop.conv 28 9 ?_) | (with_reducible refine Stop.conv 9 28 ?_))
        rw [show ((j : Int) + d - j + n5 - 1) = (i : Int) from by have := S2.out; omega, show ((j : Int) + d - j + n6 - 1) = (k : Int) from by have := S3.out; omega]
        have r1 : 0 ≤ (i : Int) := by omega
        have r2 : 0 ≤ (k : Int) := by omega
        have r3 := l3.out
        have r4 := l4.out
        refine mix_startE 40 rfl (by kernel_rfl) ?_
        intro x1 hx1
        refine mix_quiet Keeps.ext 0 rfl (by kernel_rfl) rfl ?_
        intro ι U hne hU
        go_big_quiet_op
        clear hU hne U ι
        show wpAnyM _ _ _ _ _ _ _ _ _
        refine mix_quiet Keeps.ext 1 rfl (by kernel_rfl) rfl ?_
        intro ι U hne hU
        go_big_quiet_op
        clear hU hne U ι
        show wpAnyM _ _ _ _ _ _ _ _ _
        refine mix_quiet Keeps.ext 2 rfl (by kernel_rfl) rfl ?_
        intro ι U hne hU
        go_big_quiet_op
        clear hU hne U ι
        show wpAnyM _ _ _ _ _ _ _ _ _
        refine mix_quiet Keeps.ext 3 rfl (by kernel_rfl) rfl ?_
        intro ι U hne hU
        go_big_quiet_op
        clear hU hne U ι
        show wpAnyM _ _ _ _ _ _ _ _ _
        refine mix_quiet Keeps.ext 4 rfl (by kernel_rfl) rfl ?_
        intro ι U hne hU
        go_big_quiet_op
        clear hU hne U ι
        show wpAnyM _ _ _ _ _ _ _ _ _
        refine mix_quiet Keeps.ext 5 rfl (by kernel_rfl) rfl ?_
        intro ι U hne hU
        go_big_quiet_op
        clear hU hne U ι
        show wpAnyM _ _ _ _ _ _ _ _ _
        refine mix_quiet Keeps.ext 6 rfl (by kernel_rfl) rfl ?_
        intro ι U hne hU
        go_big_quiet_op
        clear hU hne U ι
        show wpAnyM _ _ _ _ _ _ _ _ _
        refine mix_quiet Keeps.ext 7 rfl (by kernel_rfl) rfl ?_
        intro ι U hne hU
        go_big_quiet_op
        clear hU hne U ι
        show wpAnyM _ _ _ _ _ _ _ _ _
        refine mix_quiet Keeps.ext 8 rfl (by kernel_rfl) rfl ?_
        intro ι U hne hU
        go_big_quiet_op
        clear hU hne U ι
        show wpAnyM _ _ _ _ _ _ _ _ _
        refine mix_quiet Keeps.ext 9 rfl (by kernel_rfl) rfl ?_
        intro ι U hne hU
        go_big_quiet_op
        clear hU hne U ι
        show wpAnyM _ _ _ _ _ _ _ _ _
        refine mix_quiet Keeps.ext 10 rfl (by kernel_rfl) rfl ?_
        intro ι U hne hU
        go_big_quiet_op
        clear hU hne U ι
        show wpAnyM _ _ _ _ _ _ _ _ _
        refine mix_quiet Keeps.ext 11 rfl (by kernel_rfl) rfl ?_
        intro ι U hne hU
        go_big_quiet_op
        clear hU hne U ι
        show wpAnyM _ _ _ _ _ _ _ _ _
        refine mix_quiet Keeps.ext 12 rfl (by kernel_rfl) rfl ?_
        intro ι U hne hU
        go_big_quiet_op
        clear hU hne U ι
        show wpAnyM _ _ _ _ _ _ _ _ _
        refine mix_quiet Keeps.ext 13 rfl (by kernel_rfl) rfl ?_
        intro ι U hne hU
        go_big_quiet_op
        clear hU hne U ι
        show wpAnyM _ _ _ _ _ _ _ _ _
        refine mix_quiet Keeps.ext 14 rfl (by kernel_rfl) rfl ?_
        intro ι U hne hU
        go_big_quiet_op
        clear hU hne U ι
        show wpAnyM _ _ _ _ _ _ _ _ _
        refine mix_quiet Keeps.ext 15 rfl (by kernel_rfl) rfl ?_
        intro ι U hne hU
        go_big_quiet_op
        clear hU hne U ι
        show wpAnyM _ _ _ _ _ _ _ _ _
        refine mix_quiet Keeps.ext 16 rfl (by kernel_rfl) rfl ?_
        intro ι U hne hU
        go_big_quiet_op
        clear hU hne U ι
        show wpAnyM _ _ _ _ _ _ _ _ _
        refine mix_quiet Keeps.ext 17 rfl (by kernel_rfl) rfl ?_
        intro ι U hne hU
        go_big_quiet_op
        clear hU hne U ι
        show wpAnyM _ _ _ _ _ _ _ _ _
        refine mix_quiet Keeps.ext 18 rfl (by kernel_rfl) rfl ?_
        intro ι U hne hU
        go_big_quiet_op
        clear hU hne U ι
        show wpAnyM _ _ _ _ _ _ _ _ _
        refine mix_quiet Keeps.ext 19 rfl (by kernel_rfl) rfl ?_
        intro ι U hne hU
        go_big_quiet_op
        clear hU hne U ι
        show wpAnyM _ _ _ _ _ _ _ _ _
        refine mix_quiet Keeps.ext 20 rfl (by kernel_rfl) rfl ?_
        intro ι U hne hU
        go_big_quiet_op
        clear hU hne U ι
        show wpAnyM _ _ _ _ _ _ _ _ _
        refine mix_quiet Keeps.ext 21 rfl (by kernel_rfl) rfl ?_
        intro ι U hne hU
        go_big_quiet_op
        clear hU hne U ι
        show wpAnyM _ _ _ _ _ _ _ _ _
        refine mix_quiet Keeps.ext 22 rfl (by kernel_rfl) rfl ?_
        intro ι U hne hU
        go_big_quiet_op
        clear hU hne U ι
        show wpAnyM _ _ _ _ _ _ _ _ _
        refine mix_quiet Keeps.ext 23 rfl (by kernel_rfl) rfl ?_
        intro ι U hne hU
        go_big_quiet_op
        clear hU hne U ι
        show wpAnyM _ _ _ _ _ _ _ _ _
        refine mix_quiet Keeps.ext 24 rfl (by kernel_rfl) rfl ?_
        intro ι U hne hU
        go_big_quiet_op
        clear hU hne U ι
        show wpAnyM _ _ _ _ _ _ _ _ _
        refine mix_quiet Keeps.ext 25 rfl (by kernel_rfl) rfl ?_
        intro ι U hne hU
        have hcv := fun ii => run_conv_cs (P := Try.prog) (w := U ii) Try.underlying28 Try.underlying5 Try.underlying9 (cap := c3 - i) (by rw [List.length_drop, H3.out]) (Cs.mono ((kX.mono hx1 (Nat.le_refl _)).bcut i c3 (by have := H3.out; omega)) (hU ii) (Nat.le_refl _))
        go_big_quiet_op
        clear hU hne hcv U ι
        show wpAnyM _ _ _ _ _ _ _ _ _
        refine mix_quiet Keeps.ext 26 rfl (by kernel_rfl) rfl ?_
        intro ι U hne hU
        go_big_quiet_op
        clear hU hne U ι
        show wpAnyM _ _ _ _ _ _ _ _ _
        refine mix_quiet Keeps.ext 27 rfl (by kernel_rfl) rfl ?_
        intro ι U hne hU
        go_big_quiet_op
        clear hU hne U ι
        show wpAnyM _ _ _ _ _ _ _ _ _
        refine mix_quiet Keeps.ext 28 rfl (by kernel_rfl) rfl ?_
        intro ι U hne hU
        go_big_quiet_op
        clear hU hne U ι
        show wpAnyM _ _ _ _ _ _ _ _ _
        refine mix_quiet Keeps.ext 29 rfl (by kernel_rfl) rfl ?_
        intro ι U hne hU
        have hcv := fun ii => run_conv_cs (P := Try.prog) (w := U ii) Try.underlying28 Try.underlying5 Try.underlying9 (cap := c4 - k) (by rw [List.length_drop, H4.out]) (Cs.mono ((kY.mono hx1 (Nat.le_refl _)).bcut k c4 (by have := H4.out; omega)) (hU ii) (Nat.le_refl _))
        go_big_quiet_op
        clear hU hne hcv U ι
        show wpAnyM _ _ _ _ _ _ _ _ _
        have hst : (strOf (List.drop i (putR L))).toList = (strOf (List.drop k (putR (L.map (· + by_))))).toList := by rw [S6.out]
        refine mix_quiet Keeps.ext 30 rfl (by kernel_rfl) rfl ?_
        intro ι U hne hU
        go_big_quiet_op
        clear hU hne U ι
        show wpAnyM _ _ _ _ _ _ _ _ _
        clear hst
        generalize (if c3 = i then a3 else Option.map (fun x => x.add i) a3) = aX
        generalize (if c4 = k then a4 else Option.map (fun x => x.add k) a4) = aY
        refine mix_quiet Keeps.ext 31 rfl (by kernel_rfl) rfl ?_
        intro ι U hne hU
        go_big_quiet_op
        clear hU hne U ι
        show wpAnyM _ _ _ _ _ _ _ _ _
        refine mix_quiet Keeps.ext 32 rfl (by kernel_rfl) rfl ?_
        intro ι U hne hU
        go_big_quiet_op
        clear hU hne U ι
        show wpAnyM _ _ _ _ _ _ _ _ _
        refine mix_quiet Keeps.ext 33 rfl (by kernel_rfl) rfl ?_
        intro ι U hne hU
        go_big_quiet_op
        clear hU hne U ι
        show wpAnyM _ _ _ _ _ _ _ _ _
        refine mix_quiet Keeps.ext 35 rfl (by kernel_rfl) rfl ?_
        intro ι U hne hU
        go_big_quiet_op
        clear hU hne U ι
        show wpAnyM _ _ _ _ _ _ _ _ _
        refine mix_any 34 rfl (by kernel_rfl) rfl ?_
        go_wp2_with (first | (at_make; refine Stop.un ?_) | (at_builtin; refine Stop.un ?_) | (with_reducible refine Stop.conv 28 9 ?_) | (with_reducible refine Stop.conv 9 28 ?_))
        refine (rises_any aa j ca L _ (kA.mono hx1 (Nat.le_refl _)) HL.out HAc.out.1 HAc.out.2).mono ?_
        rintro e w11 ⟨rfl, b11⟩
        go_wp2_with (first | (at_make; refine Stop.un ?_) | (at_builtin; refine Stop.un ?_) | (with_reducible refine Stop.conv 28 9 ?_) | (with_reducible refine Stop.conv 9 28 ?_))
        refine MixPost.mk b11 ?_
        have b12 := (b10.next hx1).next b11
        refine mix_any 36 rfl (by kernel_rfl) rfl ?_
        go_wp2_with (first | (at_make; refine Stop.un ?_) | (at_builtin; refine Stop.un ?_) | (with_reducible refine Stop.conv 28 9 ?_) | (with_reducible refine Stop.conv 9 28 ?_))
        refine (rises_any ab j cb (L.map (· + by_)) _ ((kB.mono hx1 (Nat.le_refl _)).mono b11 (Nat.le_refl _)) (by rw [List.length_map]; exact HL.out) HBc.out.1 HBc.out.2).mono ?_
        rw [rises_shift]
        rintro e w13 ⟨rfl, b13⟩
        go_wp2_with (first | (at_make; refine Stop.un ?_) | (at_builtin; refine Stop.un ?_) | (with_reducible refine Stop.conv 28 9 ?_) | (with_reducible refine Stop.conv 9 28 ?_))
        refine MixPost.mk b13 ?_
        have b14 := b12.next b13
        clear b10 b11 b12 b13 hx1 kX kY kA kB
        refine mix_quiet Keeps.ext 37 rfl (by kernel_rfl) rfl ?_
        intro ι U hne hU
        go_big_quiet_op
        clear hU hne U ι
        show wpAnyM _ _ _ _ _ _ _ _ _
        refine mix_quiet Keeps.ext 38 rfl (by kernel_rfl) rfl ?_
        intro ι U hne hU
        go_big_quiet_op
        clear hU hne U ι
        show wpAnyM _ _ _ _ _ _ _ _ _
        refine mix_quiet Keeps.ext 39 rfl (by kernel_rfl) rfl ?_
        intro ι U hne hU
        go_big_quiet_op
        clear hU hne U ι
        show wpAnyM _ _ _ _ _ _ _ _ _
        refine mix_end (by kernel_rfl) ?_
        go_wp2_with (first | (at_make; refine Stop.un ?_) | (at_builtin; refine Stop.un ?_) | (with_reducible refine Stop.conv 28 9 ?_) | (with_reducible refine Stop.conv 9 28 ?_))
        go_ret
        exact ⟨by simp, b14⟩
      · clear hj
        have HP := Lib.hid (shift_law L by_ (by have := HL.out; omega) (by have := HL.out; omega) (fun n hn => by have := HR.out n hn; unfold Few; omega) (fun n hn => by have := HR.out n hn; unfold Few; omega))
        have hwA : ∀ n ∈ L, -9223372036854775808 ≤ n ∧ n ≤ 9223372036854775807 := fun n hn => by have := HR.out n hn; omega
        have hwB : ∀ n ∈ L.map (· + by_), -9223372036854775808 ≤ n ∧ n ≤ 9223372036854775807 := fun n hn => by
          obtain ⟨x, hx, rfl⟩ := List.mem_map.1 hn
          have := HR.out x hx; omega
        have HwA := Lib.hid hwA
        have HwB := Lib.hid hwB
        clear hwA hwB
        have ka := Own.cs hA
        have kb := Own.cs hB
        have b1 := Own.below hA
        clear hA hB
        have hj00 : ((j : Int) == 0) = false := by simp; omega
        go_wp2_with (first | (at_make; refine Stop.un ?_) | (at_builtin; refine Stop.un ?_) | (with_reducible refine Stop.conv 28 9 ?_) | (with_reducible refine Stop.conv 9 28 ?_))
        refine (put_any aa j ca L _ ka HL.out HAc.out.1 HAc.out.2 HwA.out).mono ?_
        rw [HP.out.1]
        rintro e w3 ⟨a3, n3, c3, h3, rfl, o3⟩
        have H3 := Lib.hid h3
        have l3 := Lib.hid (owns_le o3.1)
        have b3 := b1.next (Own.below o3)
        have ka3 := ka.mono (Own.below o3) (Nat.le_refl _)
        have kb3 := kb.mono (Own.below o3) (Nat.le_refl _)
        have kx3 := Own.cs o3
        clear h3 o3 b1 ka kb
        go_wp2_with (first | (at_make; refine Stop.un ?_) | (at_builtin; refine Stop.un ?_) | (with_reducible refine Stop.conv 28 9 ?_) | (with_reducible refine Stop.conv 9 28 ?_))
        refine (put_any ab j cb (L.map (· + by_)) _ kb3 (by rw [List.length_map]; exact HL.out) HBc.out.1 HBc.out.2 HwB.out).mono ?_
        rw [HP.out.2.1]
        rintro e w4 ⟨a4, n4, c4, h4, rfl, o4⟩
        have H4 := Lib.hid h4
        have l4 := Lib.hid (owns_le o4.1)
        have b4 := b3.next (Own.below o4)
        have ka4 := ka3.mono (Own.below o4) (Nat.le_refl _)
        have kb4 := kb3.mono (Own.below o4) (Nat.le_refl _)
        have kx4 := kx3.mono (Own.below o4) (Nat.le_refl _)
        have ky4 := Own.cs o4
        have q1 : 1 ≤ ca := by have := HAc.out; omega
        have q2 : 1 ≤ cb := by have := HBc.out; omega
        clear h4 o4 b3 ka3 kb3 kx3
        go_wp2_with (first | (at_make; refine Stop.un ?_) | (at_builtin; refine Stop.un ?_) | (with_reducible refine Stop.conv 28 9 ?_) | (with_reducible refine Stop.conv 9 28 ?_))
        have kp := Cs.take ka4 1
        rw [show (icells L).take 1 = icells (L.take 1) from (List.map_take ..).symm] at kp
        refine (put_any aa 1 ca (L.take 1) _ kp (by have := HL.out; rw [List.length_take]; omega) q1 HAc.out.2 (fun n hn => HwA.out n (List.mem_of_mem_take hn))).mono ?_
        rw [HP.out.2.2.1]
        rintro e w5 ⟨a5, n5, c5, h5, rfl, o5⟩
        have H5 := Lib.hid h5
        have b5 := b4.next (Own.below o5)
        have ka5 := ka4.mono (Own.below o5) (Nat.le_refl _)
        have kb5 := kb4.mono (Own.below o5) (Nat.le_refl _)
        have kx5 := kx4.mono (Own.below o5) (Nat.le_refl _)
        have ky5 := ky4.mono (Own.below o5) (Nat.le_refl _)
        clear h5 o5 b4 ka4 kb4 kx4 ky4 kp
        go_wp2_with (first | (at_make; refine Stop.un ?_) | (at_builtin; refine Stop.un ?_) | (with_reducible refine Stop.conv 28 9 ?_) | (with_reducible refine Stop.conv 9 28 ?_))
        have kq := Cs.take kb5 1
        rw [show (icells (L.map (· + by_))).take 1 = icells ((L.map (· + by_)).take 1) from (List.map_take ..).symm] at kq
        refine (put_any ab 1 cb ((L.map (· + by_)).take 1) _ kq (by have := HL.out; rw [List.length_take, List.length_map]; omega) q2 HBc.out.2 (fun n hn => HwB.out n (List.mem_of_mem_take hn))).mono ?_
        rw [HP.out.2.2.2.1]
        rintro e w6 ⟨a6, n6, c6, h6, rfl, o6⟩
        have H6 := Lib.hid h6
        have b6 := b5.next (Own.below o6)
        have ka6 := ka5.mono (Own.below o6) (Nat.le_refl _)
        have kb6 := kb5.mono (Own.below o6) (Nat.le_refl _)
        have kx6 := kx5.mono (Own.below o6) (Nat.le_refl _)
        have ky6 := ky5.mono (Own.below o6) (Nat.le_refl _)
        clear h6 o6 b5 ka5 kb5 kx5 ky5 kq
        go_wp2_with (first | (at_make; refine Stop.un ?_) | (at_builtin; refine Stop.un ?_) | (with_reducible refine Stop.conv 28 9 ?_) | (with_reducible refine Stop.conv 9 28 ?_))
        obtain ⟨i0, hi, hz0, hz1, hz2⟩ := info_parts Try.infoI64
        refine Stop.mk (wpList_make_full _ rfl _ _ 27 rfl w.heap.size 3 i0 (.int .i64 0) 1 Try.underlying27 hi hz0 hz1 _ _ _ _ j rfl rfl rfl rfl (by rw [hz2]; omega) (by unfold maxLen; omega) b6.size ?_)
        intro w7 o7 g7
        have b7 : Below _ _ w7 := (Below.refl _ _).grown g7 (Nat.le_refl _) (fun _ h => by cases h)
        have kz7 := owns_cs o7
        rw [show (madeCells (Value.int .i64 0).cells (j * 1)).toList = icells (List.replicate j 0) from by simp [icells, Value.cells, toList_madeCells_one]] at kz7
        have b8 := b6.next b7
        have ka7 := ka6.mono b7 (Nat.le_refl _)
        have kb7 := kb6.mono b7 (Nat.le_refl _)
        have kx7 := kx6.mono b7 (Nat.le_refl _)
        have ky7 := ky6.mono b7 (Nat.le_refl _)
        clear o7 g7 b7 b6 ka6 kb6 kx6 ky6 hi hz0 hz1 hz2 i0
        go_wp2_with (first | (at_make; refine Stop.un ?_) | (at_builtin; refine Stop.un ?_) | (with_reducible refine Stop.conv 28 9 ?_) | (with_reducible refine Stop.conv 9 28 ?_))
        refine (put_any _ j j (List.replicate j 0) _ kz7 (List.length_replicate) (Nat.le_refl _) (by unfold maxLen; omega) (fun n hn => by rw [List.eq_of_mem_replicate hn]; omega)).mono ?_
        have HP2 := HP.out
        rw [HL.out] at HP2
        rw [HP2.2.2.2.2.1]
        rintro e w9 ⟨a9, n9, c9, h9, rfl, o9⟩
        obtain ⟨i, k, d, s1, g1, g2, g3, s2, s3, s4, s5, s6⟩ := HP2.2.2.2.2.2
        rw [h9] at s1
        rw [H5.out] at s2 g2
        rw [H6.out] at s3 g3
        subst s1
        rw [H3.out] at s4
        rw [H4.out] at s5
        have b10 := b8.next (Own.below o9)
        have kA := ka7.mono (Own.below o9) (Nat.le_refl _)
        have kB := kb7.mono (Own.below o9) (Nat.le_refl _)
        have kX := kx7.mono (Own.below o9) (Nat.le_refl _)
        have kY := ky7.mono (Own.below o9) (Nat.le_refl _)
        have S6 := Lib.hid s6
        have S2 := Lib.hid s2
        have S3 := Lib.hid s3
        clear s2 s3
        clear h9 o9 b8 ka7 kb7 kx7 ky7 kz7 s6 HP2
        go_wp2_with (first | (at_make; refine Stop.un ?_) | (at_builtin; refine Stop.un ?_) | (with_reducible refine Stop.conv 28 9 ?_) | (with_reducible refine Stop.conv 9 28 ?_))
        rw [show ((j : Int) + d - j + n5 - 1) = (i : Int) from by have := S2.out; omega, show ((j : Int) + d - j + n6 - 1) = (k : Int) from by have := S3.out; omega]
        have r1 : 0 ≤ (i : Int) := by omega
        have r2 : 0 ≤ (k : Int) := by omega
        have r3 := l3.out
        have r4 := l4.out
        refine mix_startE 40 rfl (by kernel_rfl) ?_
        intro x1 hx1
        refine mix_quiet Keeps.ext 0 rfl (by kernel_rfl) rfl ?_
        intro ι U hne hU
        go_big_quiet_op
        clear hU hne U ι
        show wpAnyM _ _ _ _ _ _ _ _ _
        refine mix_quiet Keeps.ext 1 rfl (by kernel_rfl) rfl ?_
        intro ι U hne hU
        go_big_quiet_op
        clear hU hne U ι
        show wpAnyM _ _ _ _ _ _ _ _ _
        refine mix_quiet Keeps.ext 2 rfl (by kernel_rfl) rfl ?_
        intro ι U hne hU
        go_big_quiet_op
        clear hU hne U ι
        show wpAnyM _ _ _ _ _ _ _ _ _
        refine mix_quiet Keeps.ext 3 rfl (by kernel_rfl) rfl ?_
        intro ι U hne hU
        go_big_quiet_op
        clear hU hne U ι
        show wpAnyM _ _ _ _ _ _ _ _ _
        refine mix_quiet Keeps.ext 4 rfl (by kernel_rfl) rfl ?_
        intro ι U hne hU
        go_big_quiet_op
        clear hU hne U ι
        show wpAnyM _ _ _ _ _ _ _ _ _
        refine mix_quiet Keeps.ext 5 rfl (by kernel_rfl) rfl ?_
        intro ι U hne hU
        go_big_quiet_op
        clear hU hne U ι
        show wpAnyM _ _ _ _ _ _ _ _ _
        refine mix_quiet Keeps.ext 6 rfl (by kernel_rfl) rfl ?_
        intro ι U hne hU
        go_big_quiet_op
        clear hU hne U ι
        show wpAnyM _ _ _ _ _ _ _ _ _
        refine mix_quiet Keeps.ext 7 rfl (by kernel_rfl) rfl ?_
        intro ι U hne hU
        go_big_quiet_op
        clear hU hne U ι
        show wpAnyM _ _ _ _ _ _ _ _ _
        refine mix_quiet Keeps.ext 8 rfl (by kernel_rfl) rfl ?_
        intro ι U hne hU
        go_big_quiet_op
        clear hU hne U ι
        show wpAnyM _ _ _ _ _ _ _ _ _
        refine mix_quiet Keeps.ext 9 rfl (by kernel_rfl) rfl ?_
        intro ι U hne hU
        go_big_quiet_op
        clear hU hne U ι
        show wpAnyM _ _ _ _ _ _ _ _ _
        refine mix_quiet Keeps.ext 10 rfl (by kernel_rfl) rfl ?_
        intro ι U hne hU
        go_big_quiet_op
        clear hU hne U ι
        show wpAnyM _ _ _ _ _ _ _ _ _
        refine mix_quiet Keeps.ext 11 rfl (by kernel_rfl) rfl ?_
        intro ι U hne hU
        go_big_quiet_op
        clear hU hne U ι
        show wpAnyM _ _ _ _ _ _ _ _ _
        refine mix_quiet Keeps.ext 12 rfl (by kernel_rfl) rfl ?_
        intro ι U hne hU
        go_big_quiet_op
        clear hU hne U ι
        show wpAnyM _ _ _ _ _ _ _ _ _
        refine mix_quiet Keeps.ext 13 rfl (by kernel_rfl) rfl ?_
        intro ι U hne hU
        go_big_quiet_op
        clear hU hne U ι
        show wpAnyM _ _ _ _ _ _ _ _ _
        refine mix_quiet Keeps.ext 14 rfl (by kernel_rfl) rfl ?_
        intro ι U hne hU
        go_big_quiet_op
        clear hU hne U ι
        show wpAnyM _ _ _ _ _ _ _ _ _
        refine mix_quiet Keeps.ext 15 rfl (by kernel_rfl) rfl ?_
        intro ι U hne hU
        go_big_quiet_op
        clear hU hne U ι
        show wpAnyM _ _ _ _ _ _ _ _ _
        refine mix_quiet Keeps.ext 16 rfl (by kernel_rfl) rfl ?_
        intro ι U hne hU
        go_big_quiet_op
        clear hU hne U ι
        show wpAnyM _ _ _ _ _ _ _ _ _
        refine mix_quiet Keeps.ext 17 rfl (by kernel_rfl) rfl ?_
        intro ι U hne hU
        go_big_quiet_op
        clear hU hne U ι
        show wpAnyM _ _ _ _ _ _ _ _ _
        refine mix_quiet Keeps.ext 18 rfl (by kernel_rfl) rfl ?_
        intro ι U hne hU
        go_big_quiet_op
        clear hU hne U ι
        show wpAnyM _ _ _ _ _ _ _ _ _
        refine mix_quiet Keeps.ext 19 rfl (by kernel_rfl) rfl ?_
        intro ι U hne hU
        go_big_quiet_op
        clear hU hne U ι
        show wpAnyM _ _ _ _ _ _ _ _ _
        refine mix_quiet Keeps.ext 20 rfl (by kernel_rfl) rfl ?_
        intro ι U hne hU
        go_big_quiet_op
        clear hU hne U ι
        show wpAnyM _ _ _ _ _ _ _ _ _
        refine mix_quiet Keeps.ext 21 rfl (by kernel_rfl) rfl ?_
        intro ι U hne hU
        go_big_quiet_op
        clear hU hne U ι
        show wpAnyM _ _ _ _ _ _ _ _ _
        refine mix_quiet Keeps.ext 22 rfl (by kernel_rfl) rfl ?_
        intro ι U hne hU
        go_big_quiet_op
        clear hU hne U ι
        show wpAnyM _ _ _ _ _ _ _ _ _
        refine mix_quiet Keeps.ext 23 rfl (by kernel_rfl) rfl ?_
        intro ι U hne hU
        go_big_quiet_op
        clear hU hne U ι
        show wpAnyM _ _ _ _ _ _ _ _ _
        refine mix_quiet Keeps.ext 24 rfl (by kernel_rfl) rfl ?_
        intro ι U hne hU
        go_big_quiet_op
        clear hU hne U ι
        show wpAnyM _ _ _ _ _ _ _ _ _
        refine mix_quiet Keeps.ext 25 rfl (by kernel_rfl) rfl ?_
        intro ι U hne hU
        have hcv := fun ii => run_conv_cs (P := Try.prog) (w := U ii) Try.underlying28 Try.underlying5 Try.underlying9 (cap := c3 - i) (by rw [List.length_drop, H3.out]) (Cs.mono ((kX.mono hx1 (Nat.le_refl _)).bcut i c3 (by have := H3.out; omega)) (hU ii) (Nat.le_refl _))
        go_big_quiet_op
        clear hU hne hcv U ι
        show wpAnyM _ _ _ _ _ _ _ _ _
        refine mix_quiet Keeps.ext 26 rfl (by kernel_rfl) rfl ?_
        intro ι U hne hU
        go_big_quiet_op
        clear hU hne U ι
        show wpAnyM _ _ _ _ _ _ _ _ _
        refine mix_quiet Keeps.ext 27 rfl (by kernel_rfl) rfl ?_
        intro ι U hne hU
        go_big_quiet_op
        clear hU hne U ι
        show wpAnyM _ _ _ _ _ _ _ _ _
        refine mix_quiet Keeps.ext 28 rfl (by kernel_rfl) rfl ?_
        intro ι U hne hU
        go_big_quiet_op
        clear hU hne U ι
        show wpAnyM _ _ _ _ _ _ _ _ _
        refine mix_quiet Keeps.ext 29 rfl (by kernel_rfl) rfl ?_
        intro ι U hne hU
        have hcv := fun ii => run_conv_cs (P := Try.prog) (w := U ii) Try.underlying28 Try.underlying5 Try.underlying9 (cap := c4 - k) (by rw [List.length_drop, H4.out]) (Cs.mono ((kY.mono hx1 (Nat.le_refl _)).bcut k c4 (by have := H4.out; omega)) (hU ii) (Nat.le_refl _))
        go_big_quiet_op
        clear hU hne hcv U ι
        show wpAnyM _ _ _ _ _ _ _ _ _
        have hst : (strOf (List.drop i (putR L))).toList = (strOf (List.drop k (putR (L.map (· + by_))))).toList := by rw [S6.out]
        refine mix_quiet Keeps.ext 30 rfl (by kernel_rfl) rfl ?_
        intro ι U hne hU
        go_big_quiet_op
        clear hU hne U ι
        show wpAnyM _ _ _ _ _ _ _ _ _
        clear hst
        generalize (if c3 = i then a3 else Option.map (fun x => x.add i) a3) = aX
        generalize (if c4 = k then a4 else Option.map (fun x => x.add k) a4) = aY
        refine mix_quiet Keeps.ext 31 rfl (by kernel_rfl) rfl ?_
        intro ι U hne hU
        go_big_quiet_op
        clear hU hne U ι
        show wpAnyM _ _ _ _ _ _ _ _ _
        refine mix_quiet Keeps.ext 32 rfl (by kernel_rfl) rfl ?_
        intro ι U hne hU
        go_big_quiet_op
        clear hU hne U ι
        show wpAnyM _ _ _ _ _ _ _ _ _
        refine mix_quiet Keeps.ext 33 rfl (by kernel_rfl) rfl ?_
        intro ι U hne hU
        go_big_quiet_op
        clear hU hne U ι
        show wpAnyM _ _ _ _ _ _ _ _ _
        refine mix_quiet Keeps.ext 35 rfl (by kernel_rfl) rfl ?_
        intro ι U hne hU
        go_big_quiet_op
        clear hU hne U ι
        show wpAnyM _ _ _ _ _ _ _ _ _
        refine mix_any 34 rfl (by kernel_rfl) rfl ?_
        go_wp2_with (first | (at_make; refine Stop.un ?_) | (at_builtin; refine Stop.un ?_) | (with_reducible refine Stop.conv 28 9 ?_) | (with_reducible refine Stop.conv 9 28 ?_))
        refine (rises_any aa j ca L _ (kA.mono hx1 (Nat.le_refl _)) HL.out HAc.out.1 HAc.out.2).mono ?_
        rintro e w11 ⟨rfl, b11⟩
        go_wp2_with (first | (at_make; refine Stop.un ?_) | (at_builtin; refine Stop.un ?_) | (with_reducible refine Stop.conv 28 9 ?_) | (with_reducible refine Stop.conv 9 28 ?_))
        refine MixPost.mk b11 ?_
        have b12 := (b10.next hx1).next b11
        refine mix_any 36 rfl (by kernel_rfl) rfl ?_
        go_wp2_with (first | (at_make; refine Stop.un ?_) | (at_builtin; refine Stop.un ?_) | (with_reducible refine Stop.conv 28 9 ?_) | (with_reducible refine Stop.conv 9 28 ?_))
        refine (rises_any ab j cb (L.map (· + by_)) _ ((kB.mono hx1 (Nat.le_refl _)).mono b11 (Nat.le_refl _)) (by rw [List.length_map]; exact HL.out) HBc.out.1 HBc.out.2).mono ?_
        rw [rises_shift]
        rintro e w13 ⟨rfl, b13⟩
        go_wp2_with (first | (at_make; refine Stop.un ?_) | (at_builtin; refine Stop.un ?_) | (with_reducible refine Stop.conv 28 9 ?_) | (with_reducible refine Stop.conv 9 28 ?_))
        refine MixPost.mk b13 ?_
        have b14 := b12.next b13
        clear b10 b11 b12 b13 hx1 kX kY kA kB
        refine mix_quiet Keeps.ext 37 rfl (by kernel_rfl) rfl ?_
        intro ι U hne hU
        go_big_quiet_op
        clear hU hne U ι
        show wpAnyM _ _ _ _ _ _ _ _ _
        refine mix_quiet Keeps.ext 38 rfl (by kernel_rfl) rfl ?_
        intro ι U hne hU
        go_big_quiet_op
        clear hU hne U ι
        show wpAnyM _ _ _ _ _ _ _ _ _
        refine mix_quiet Keeps.ext 39 rfl (by kernel_rfl) rfl ?_
        intro ι U hne hU
        go_big_quiet_op
        clear hU hne U ι
        show wpAnyM _ _ _ _ _ _ _ _ _
        refine mix_end (by kernel_rfl) ?_
        go_wp2_with (first | (at_make; refine Stop.un ?_) | (at_builtin; refine Stop.un ?_) | (with_reducible refine Stop.conv 28 9 ?_) | (with_reducible refine Stop.conv 9 28 ?_))
        go_ret
        exact ⟨by simp, b14⟩
      · subst hj0
        have b1 := Own.below hA
        clear hA hB
        go_wp2_with (first | (at_make; refine Stop.un ?_) | (at_builtin; refine Stop.un ?_) | (with_reducible refine Stop.conv 28 9 ?_) | (with_reducible refine Stop.conv 9 28 ?_))
        go_ret
        exact ⟨rfl, b1⟩
end Go.Proofs.Ytmnpneehlnmfmaa
