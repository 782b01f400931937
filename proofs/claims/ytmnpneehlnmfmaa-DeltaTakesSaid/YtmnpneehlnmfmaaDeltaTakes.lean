/- DeltaTakes. -/
import Derived.Test.YtmnpneehlnmfmaaDLay
import Derived.Test.YtmnpneehlnmfmaaDRTake
import Derived.Test.YtmnpneehlnmfmaaIntsEq
set_option linter.unusedVariables false
namespace Go.Proofs.Ytmnpneehlnmfmaa
open Go.RowKit
set_option maxRecDepth 100000 in
set_option maxHeartbeats 2000000 in
theorem deltaTakes_any (ao : Option Addr) (m0 cap : Nat) (bs0 : List UInt8) (w : World) (hc0 : Cs w ao (bcells bs0)) (hm0 : bs0.length = m0) (hl0 : m0 ≤ cap) (hcm : cap ≤ maxLen) :
    Calls Try.prog 6 #[.slice ao m0 cap] w (fun e w' => e = .returned (.bool true) ∧ Below w.heap.size w w') := by
  unfold maxLen at hcm
  have hc := hc0.take (min m0 3000)
  rw [show (bcells bs0).take (min m0 3000) = bcells (bs0.take (min m0 3000)) by simp [bcells, List.map_take]] at hc
  have hm : (bs0.take (min m0 3000)).length = min m0 3000 := by rw [List.length_take, hm0]; omega
  have hl : min m0 3000 ≤ cap := by omega
  have hm1 : (min (m0 : Int) 3000).toNat = min m0 3000 := by omega
  have h3 : min m0 3000 ≤ 3000 := by omega
  generalize bs0.take (min m0 3000) = bs at hc hm
  generalize min m0 3000 = m at hc hm hl hm1 h3
  clear hc0 hm0
  have HM := Lib.hid hm
  have HM1 := Lib.hid hm1
  clear hm hm1
  go_enter Try.func6, Try.ntmps6
  go_wp2_with (first | (at_make; refine Stop.un ?_) | (at_builtin; refine Stop.un ?_) | (with_reducible refine Stop.conv 28 9 ?_) | (with_reducible refine Stop.conv 9 28 ?_))
  rw [HM1.out]
  refine (take_any ao m cap bs _ hc HM.out (by omega)).mono ?_
  rintro e w1 ⟨a1, n1, c1, h1, rfl, o1⟩
  have H1 := Lib.hid h1
  clear h1
  go_wp2_with (first | (at_make; refine Stop.un ?_) | (at_builtin; refine Stop.un ?_) | (with_reducible refine Stop.conv 28 9 ?_) | (with_reducible refine Stop.conv 9 28 ?_))
  refine (rtake_any ao m cap bs _ (hc.mono (Own.below o1) (Nat.le_refl _)) HM.out (by omega)).mono ?_
  rintro e w2 ⟨a2, n2, c2, h2, rfl, o2⟩
  have hn : n2 = n1 := h2.symm.trans H1.out
  subst hn
  have H3 := Lib.hid (owns_max o1.1)
  have H4 := Lib.hid (owns_le o1.1)
  have H5 := Lib.hid (owns_le o2.1)
  have b2 := (Own.below o1).next (Own.below o2)
  have c1' := (Own.cs o1).mono (Own.below o2) (Nat.le_refl _)
  have c2' := Own.cs o2
  clear h2 o1 o2 hc
  go_wp2_with (first | (at_make; refine Stop.un ?_) | (at_builtin; refine Stop.un ?_) | (with_reducible refine Stop.conv 28 9 ?_) | (with_reducible refine Stop.conv 9 28 ?_))
  refine (shown_any _).mono ?_
  rintro e w3 ⟨rfl, b3⟩
  have b4 := b2.next b3
  have hx := c1'.mono b3 (Nat.le_refl _)
  have hy := c2'.mono b3 (Nat.le_refl _)
  clear b2 b3 c1' c2'
  go_wp2_with (first | (at_make; refine Stop.un ?_) | (at_builtin; refine Stop.un ?_) | (with_reducible refine Stop.conv 28 9 ?_) | (with_reducible refine Stop.conv 9 28 ?_))
  refine (intsEq_any a1 a2 n2 c1 c2 _ _ hx hy H1.out (by have := H3.out; have := H4.out; unfold maxLen at *; omega) H4.out H5.out).mono ?_
  rintro e w5 ⟨rfl, b5⟩
  have b6 := b4.next b5
  clear b4 b5 hx hy
  go_wp2_with (first | (at_make; refine Stop.un ?_) | (at_builtin; refine Stop.un ?_) | (with_reducible refine Stop.conv 28 9 ?_) | (with_reducible refine Stop.conv 9 28 ?_))
  go_ret
  exact ⟨by simp, b6⟩
end Go.Proofs.Ytmnpneehlnmfmaa
