/- DeltaPuts. -/
import Derived.Test.YtmnpneehlnmfmaaDLay
import Derived.Test.YtmnpneehlnmfmaaDRise
set_option linter.unusedVariables false
namespace Go.Proofs.Ytmnpneehlnmfmaa
open Go.RowKit
set_option maxRecDepth 100000 in
set_option maxHeartbeats 2000000 in
theorem deltaPuts_any (a b : Int) (ao : Option Addr) (m0 cap : Nat) (zs0 : List Int) (w : World) (ha0 : -9223372036854775808 ≤ a) (ha1 : a ≤ 9223372036854775807) (hb0 : -9223372036854775808 ≤ b) (hb1 : b ≤ 9223372036854775807)
    (hc0 : Cs w ao (zs0.map (Value.int .i64))) (hm0 : zs0.length = m0) (hl0 : m0 ≤ cap) (hcm : cap ≤ maxLen) (hwf0 : ∀ n ∈ zs0, -9223372036854775808 ≤ n ∧ n ≤ 9223372036854775807) :
    Calls Try.prog 4 #[.int .i64 a, .int .i64 b, .slice ao m0 cap] w (fun e w' => e = .returned (.bool true) ∧ Below w.heap.size w w') := by
  have hc := hc0.take (min m0 5000)
  rw [← List.map_take] at hc
  have hm : (zs0.take (min m0 5000)).length = min m0 5000 := by rw [List.length_take, hm0]; omega
  have hwf : ∀ n ∈ zs0.take (min m0 5000), -9223372036854775808 ≤ n ∧ n ≤ 9223372036854775807 := fun n hn => hwf0 n (List.mem_of_mem_take hn)
  have hl : min m0 5000 ≤ cap := by omega
  have HF : Hid (∀ x : World, Calls Try.prog 13 #[.slice ao m0 cap] x (fun e w' => e = .returned (.slice ao (min m0 5000) cap) ∧ x = w')) := Lib.hid (fun x => few_any ao m0 cap x hl0 hcm)
  generalize zs0.take (min m0 5000) = zs at hc hm hwf
  generalize min m0 5000 = m at hm hl HF
  clear hc0 hm0 hwf0
  have HW := Lib.hid hwf
  have HM := Lib.hid hm
  have HC := Lib.hid hcm
  clear hwf hm hcm
  go_enter Try.func4, Try.ntmps4
  go_wp2_with (first | (at_make; refine Stop.un ?_) | (at_builtin; refine Stop.un ?_) | (with_reducible refine Stop.conv 28 9 ?_) | (with_reducible refine Stop.conv 9 28 ?_))
  refine (step_any a b _ ha0 ha1 hb0 hb1).mono ?_
  rintro e w1 ⟨rfl, rfl⟩
  go_wp2_with (first | (at_make; refine Stop.un ?_) | (at_builtin; refine Stop.un ?_) | (with_reducible refine Stop.conv 28 9 ?_) | (with_reducible refine Stop.conv 9 28 ?_))
  refine (rstep_any a b _ ha0 ha1 hb0 hb1).mono ?_
  rintro e w1 ⟨rfl, rfl⟩
  go_wp2_with (first | (at_make; refine Stop.un ?_) | (at_builtin; refine Stop.un ?_) | (with_reducible refine Stop.conv 28 9 ?_) | (with_reducible refine Stop.conv 9 28 ?_))
  refine (HF.out _).mono ?_
  rintro e w1 ⟨rfl, rfl⟩
  go_wp2_with (first | (at_make; refine Stop.un ?_) | (at_builtin; refine Stop.un ?_) | (with_reducible refine Stop.conv 28 9 ?_) | (with_reducible refine Stop.conv 9 28 ?_))
  refine (put_any ao m cap zs _ hc HM.out hl HC.out HW.out).mono ?_
  rintro e w1 ⟨a1, n1, c1, h1, rfl, o1⟩
  have H1 := Lib.hid h1
  clear h1
  go_wp2_with (first | (at_make; refine Stop.un ?_) | (at_builtin; refine Stop.un ?_) | (with_reducible refine Stop.conv 28 9 ?_) | (with_reducible refine Stop.conv 9 28 ?_))
  refine (HF.out _).mono ?_
  rintro e w2 ⟨rfl, rfl⟩
  go_wp2_with (first | (at_make; refine Stop.un ?_) | (at_builtin; refine Stop.un ?_) | (with_reducible refine Stop.conv 28 9 ?_) | (with_reducible refine Stop.conv 9 28 ?_))
  refine (rput_any ao m cap zs _ (hc.mono (Own.below o1) (Nat.le_refl _)) HM.out hl HC.out HW.out).mono ?_
  rintro e w2 ⟨a2, n2, c2, h2, rfl, o2⟩
  have H2 := Lib.hid h2
  have b2 := (Own.below o1).next (Own.below o2)
  have c1' := (Own.cs o1).mono (Own.below o2) (Nat.le_refl _)
  have c2' := Own.cs o2
  clear h2 o1 o2
  go_wp2_with (first | (at_make; refine Stop.un ?_) | (at_builtin; refine Stop.un ?_) | (with_reducible refine Stop.conv 28 9 ?_) | (with_reducible refine Stop.conv 9 28 ?_))
  refine (shown_any _).mono ?_
  rintro e w3 ⟨rfl, b3⟩
  have b4 := b2.next b3
  have hx := c1'.mono b3 (Nat.le_refl _)
  have hy := c2'.mono b3 (Nat.le_refl _)
  clear b2 b3 c1' c2'
  go_wp2_with (first | (at_make; refine Stop.un ?_) | (at_builtin; refine Stop.un ?_) | (with_reducible refine Stop.conv 28 9 ?_) | (with_reducible refine Stop.conv 9 28 ?_))
  refine Stop.mk (wpList_conv Try.underlying28 Try.underlying5 Try.underlying9 _ rfl rfl rfl H1.out hx ?_)
  go_wp2_with (first | (at_make; refine Stop.un ?_) | (at_builtin; refine Stop.un ?_) | (with_reducible refine Stop.conv 28 9 ?_) | (with_reducible refine Stop.conv 9 28 ?_))
  refine Stop.mk (wpList_conv Try.underlying28 Try.underlying5 Try.underlying9 _ rfl rfl rfl H2.out hy ?_)
  clear hx hy
  go_wp2_with (first | (at_make; refine Stop.un ?_) | (at_builtin; refine Stop.un ?_) | (with_reducible refine Stop.conv 28 9 ?_) | (with_reducible refine Stop.conv 9 28 ?_))
  refine (HF.out _).mono ?_
  rintro e w4 ⟨rfl, rfl⟩
  go_wp2_with (first | (at_make; refine Stop.un ?_) | (at_builtin; refine Stop.un ?_) | (with_reducible refine Stop.conv 28 9 ?_) | (with_reducible refine Stop.conv 9 28 ?_))
  refine (rises_any ao m cap zs _ (hc.mono b4 (Nat.le_refl _)) HM.out hl HC.out).mono ?_
  rintro e w5 ⟨rfl, b5⟩
  have b6 := b4.next b5
  clear b4 b5
  go_wp2_with (first | (at_make; refine Stop.un ?_) | (at_builtin; refine Stop.un ?_) | (with_reducible refine Stop.conv 28 9 ?_) | (with_reducible refine Stop.conv 9 28 ?_))
  refine (HF.out _).mono ?_
  rintro e w4 ⟨rfl, rfl⟩
  go_wp2_with (first | (at_make; refine Stop.un ?_) | (at_builtin; refine Stop.un ?_) | (with_reducible refine Stop.conv 28 9 ?_) | (with_reducible refine Stop.conv 9 28 ?_))
  refine (rrises_any ao m cap zs _ (hc.mono b6 (Nat.le_refl _)) HM.out hl HC.out).mono ?_
  rintro e w7 ⟨rfl, b7⟩
  have b8 := b6.next b7
  clear b6 b7
  go_wp2_with (first | (at_make; refine Stop.un ?_) | (at_builtin; refine Stop.un ?_) | (with_reducible refine Stop.conv 28 9 ?_) | (with_reducible refine Stop.conv 9 28 ?_))
  go_ret
  exact ⟨by simp, b8⟩
end Go.Proofs.Ytmnpneehlnmfmaa
