/- PackUnpacks. -/
import Derived.Test.YtcjnehlbkjpgbaaPShown
set_option linter.unusedVariables false
set_option linter.unusedSimpArgs false
namespace Go.Proofs.Ytcjnehlbkjpgbaa
open Go.RowKit
set_option maxRecDepth 100000 in
set_option maxHeartbeats 4000000 in
theorem packUnpacks_any (ao : Option Addr) (m cap : Nat) (l : List UInt8) (many width : Int) (w : World) (hc : Cs w ao (bcells l)) (hm : l.length = m) (hl : m ≤ cap) (hcm : cap ≤ maxLen) :
    Calls Try.prog 4 #[.slice ao m cap, .int .i64 many, .int .i64 width] w (fun e w' => e = .returned (.bool true) ∧ Below w.heap.size w w') := by
  have hx : (l.take (min m 4000)).length = min m 4000 := by simp; omega
  have hcx := bcut hc (min m 4000)
  have hfc : min m 4000 ≤ cap := by omega
  have hmin2 : min (m : Int) 4000 = ((min m 4000 : Nat) : Int) := by omega
  generalize l.take (min m 4000) = x at hx hcx
  have hcm' := hcm
  unfold maxLen at hcm'
  have HMIN := Lib.hid hmin2
  generalize min m 4000 = f at hx hfc HMIN
  have H1 := Lib.hid (fun w hc => unpack_any ao f cap many width x w hc hx hfc)
  have H2 := Lib.hid (fun w hc => runpack_any ao f cap many width x w hc hx hfc)
  generalize unpR x many width = pr at H1 H2
  generalize unpE x many width = pe at H1 H2
  clear hc hm hx hmin2
  go_enter Try.func4, Try.ntmps4
  go_wp2_with (first | (at_make; refine Stop.un ?_) | (at_builtin; refine Stop.un ?_) | (with_reducible refine Stop.conv 24 9 ?_) | (with_reducible refine Stop.conv 9 24 ?_) | (with_reducible refine Stop.slice ?_))
  rw [HMIN.out]
  refine Stop.mk ?_
  clear HMIN
  go_wp2_with (first | (at_make; refine Stop.un ?_) | (at_builtin; refine Stop.un ?_) | (with_reducible refine Stop.conv 24 9 ?_) | (with_reducible refine Stop.conv 9 24 ?_))
  refine (H1.out _ hcx).mono ?_
  rintro e w1 ⟨a1, n1, c1, h1, rfl, o1⟩
  have b1 := Own.below o1
  have cs1 := Own.cs o1
  have le1 := owns_le o1.1
  have mx1 := owns_max o1.1
  unfold maxLen at mx1
  have E1 := Lib.hid h1
  replace hcx := hcx.mono b1 (Nat.le_refl _)
  clear h1 o1
  go_wp2_with (first | (at_make; refine Stop.un ?_) | (at_builtin; refine Stop.un ?_) | (with_reducible refine Stop.conv 24 9 ?_) | (with_reducible refine Stop.conv 9 24 ?_))
  refine (H2.out _ hcx).mono ?_
  rintro e w2 ⟨a2, n2, c2, h2, rfl, o2⟩
  have hb := Own.below o2
  have cs2 := Own.cs o2
  have le2 := owns_le o2.1
  have hnn : n2 = n1 := by have := E1.out; omega
  subst hnn
  replace cs1 := cs1.mono hb (Nat.le_refl _)
  replace b1 := b1.next hb
  clear h2 o2 hb hcx
  go_wp2_with (first | (at_make; refine Stop.un ?_) | (at_builtin; refine Stop.un ?_) | (with_reducible refine Stop.conv 24 9 ?_) | (with_reducible refine Stop.conv 9 24 ?_))
  refine (shown_any _).mono ?_
  rintro e w3 ⟨rfl, hb⟩
  replace cs1 := cs1.mono hb (Nat.le_refl _)
  replace cs2 := cs2.mono hb (Nat.le_refl _)
  replace b1 := b1.next hb
  have hq2 : (pe == pe) = true := by simp
  clear hb
  go_wp2_with (first | (at_make; refine Stop.un ?_) | (at_builtin; refine Stop.un ?_) | (with_reducible refine Stop.conv 24 9 ?_) | (with_reducible refine Stop.conv 9 24 ?_))
  refine (numsEq_any a1 a2 n2 c1 c2 pr _ cs1 cs2 E1.out (by omega) le1 le2).mono ?_
  rintro e w4 ⟨rfl, hb⟩
  replace b1 := b1.next hb
  clear hb cs1 cs2
  go_wp2_with (first | (at_make; refine Stop.un ?_) | (at_builtin; refine Stop.un ?_) | (with_reducible refine Stop.conv 24 9 ?_) | (with_reducible refine Stop.conv 9 24 ?_))
  go_ret
  exact ⟨rfl, b1⟩
end Go.Proofs.Ytcjnehlbkjpgbaa
