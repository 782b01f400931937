/- PackFrames. -/
import Derived.Test.YtcjnehlbkjpgbaaPShown
import Derived.Test.YtcjnehlbkjpgbaaUnframe
import Derived.Test.YtcjnehlbkjpgbaaRUnframe
import Derived.Test.YtcjnehlbkjpgbaaIntsEq
set_option linter.unusedVariables false
set_option linter.unusedSimpArgs false
namespace Go.Proofs.Ytcjnehlbkjpgbaa
open Go.RowKit
set_option maxRecDepth 100000 in
set_option maxHeartbeats 4000000 in
theorem packFrames_any (ao : Option Addr) (m0 cap : Nat) (l : List Int) (bo : Option Addr) (k0 capb : Nat) (bs : List UInt8) (w : World)
    (hc : Cs w ao (icells l)) (hm : l.length = m0) (hl : m0 ≤ cap) (hcm : cap ≤ maxLen) (hi : inI l)
    (hd : Cs w bo (bcells bs)) (hk : bs.length = k0) (hlb : k0 ≤ capb) (hcmb : capb ≤ maxLen) :
    Calls Try.prog 6 #[.slice ao m0 cap, .slice bo k0 capb] w (fun e w' => e = .returned (.bool true) ∧ Below w.heap.size w w') := by
  have hx : (l.take (min m0 5000)).length = min m0 5000 := by simp; omega
  have hcx := icut hc (min m0 5000)
  have hix : inI (l.take (min m0 5000)) := fun n hn => hi n (List.mem_of_mem_take hn)
  have hfc : min m0 5000 ≤ cap := by omega
  have hf5 : min m0 5000 ≤ 5000 := by omega
  have hmin1 : min (m0 : Int) 5000 = ((min m0 5000 : Nat) : Int) := by omega
  generalize l.take (min m0 5000) = x at hx hcx hix
  have hy : (bs.take (min k0 4000)).length = min k0 4000 := by simp; omega
  have hdy := bcut hd (min k0 4000)
  have hgc : min k0 4000 ≤ capb := by omega
  have hg4 : min k0 4000 ≤ 4000 := by omega
  have hmin2 : min (k0 : Int) 4000 = ((min k0 4000 : Nat) : Int) := by omega
  generalize bs.take (min k0 4000) = y at hy hdy
  have H1 := Lib.hid (fun w hc => frame_any ao (min m0 5000) cap x w hc hx hfc hcm hix)
  have H2 := Lib.hid (fun w hc => rframe_any ao (min m0 5000) cap x w hc hx hfc hcm hix)
  have H3 := Lib.hid (fun w hc => unframe_any bo (min k0 4000) capb y w hc hy hgc (by omega))
  have H4 := Lib.hid (fun w hc => runframe_any bo (min k0 4000) capb y w hc hy hgc (by omega))
  unfold maxLen at hcm hcmb
  have HMIN1 := Lib.hid hmin1
  have HMIN2 := Lib.hid hmin2
  generalize min m0 5000 = f at hx hfc HMIN1 hf5 H1 H2
  generalize min k0 4000 = g at hy hgc HMIN2 hg4 H3 H4
  generalize frameR x = fr at H1 H2
  generalize frameE x = fe at H1 H2
  generalize unfO y = uo at H3 H4
  clear hc hm hi hx hmin1 hd hk hy hmin2 hix
  go_enter Try.func6, Try.ntmps6
  go_wp2_with (first | (at_make; refine Stop.un ?_) | (at_builtin; refine Stop.un ?_) | (with_reducible refine Stop.conv 24 9 ?_) | (with_reducible refine Stop.conv 9 24 ?_) | (with_reducible refine Stop.slice ?_))
  rw [HMIN1.out]
  refine Stop.mk ?_
  clear HMIN1
  go_wp2_with (first | (at_make; refine Stop.un ?_) | (at_builtin; refine Stop.un ?_) | (with_reducible refine Stop.conv 24 9 ?_) | (with_reducible refine Stop.conv 9 24 ?_))
  refine (H1.out _ hcx).mono ?_
  rintro e w1 ⟨a1, n1, c1, h1, rfl, o1⟩
  have b1 := Own.below o1
  have cs1 := Own.cs o1
  have E1 := Lib.hid h1
  replace hcx := hcx.mono b1 (Nat.le_refl _)
  replace hdy := hdy.mono b1 (Nat.le_refl _)
  clear h1 o1
  go_wp2_with (first | (at_make; refine Stop.un ?_) | (at_builtin; refine Stop.un ?_) | (with_reducible refine Stop.conv 24 9 ?_) | (with_reducible refine Stop.conv 9 24 ?_))
  refine (H2.out _ hcx).mono ?_
  rintro e w2 ⟨a2, n2, c2, h2, rfl, o2⟩
  have hb := Own.below o2
  have cs2 := Own.cs o2
  have hnn : n2 = n1 := by have := E1.out; omega
  subst hnn
  replace cs1 := cs1.mono hb (Nat.le_refl _)
  replace hdy := hdy.mono hb (Nat.le_refl _)
  replace b1 := b1.next hb
  clear h2 o2 hb hcx
  go_wp2_with (first | (at_make; refine Stop.un ?_) | (at_builtin; refine Stop.un ?_) | (with_reducible refine Stop.conv 24 9 ?_) | (with_reducible refine Stop.conv 9 24 ?_) | (with_reducible refine Stop.slice ?_))
  rw [HMIN2.out]
  refine Stop.mk ?_
  clear HMIN2
  go_wp2_with (first | (at_make; refine Stop.un ?_) | (at_builtin; refine Stop.un ?_) | (with_reducible refine Stop.conv 24 9 ?_) | (with_reducible refine Stop.conv 9 24 ?_))
  refine (H3.out _ hdy).mono ?_
  rintro e w3 ⟨a3, n3, c3, h3, rfl, o3⟩
  have hb := Own.below o3
  have cs3 := Own.cs o3
  have le3 := owns_le o3.1
  have mx3 := owns_max o3.1
  unfold maxLen at mx3
  have E3 := Lib.hid h3
  replace hdy := hdy.mono hb (Nat.le_refl _)
  replace cs1 := cs1.mono hb (Nat.le_refl _)
  replace cs2 := cs2.mono hb (Nat.le_refl _)
  replace b1 := b1.next hb
  clear h3 o3 hb
  go_wp2_with (first | (at_make; refine Stop.un ?_) | (at_builtin; refine Stop.un ?_) | (with_reducible refine Stop.conv 24 9 ?_) | (with_reducible refine Stop.conv 9 24 ?_))
  refine (H4.out _ hdy).mono ?_
  rintro e w4 ⟨a4, n4, c4, h4, rfl, o4⟩
  have hb := Own.below o4
  have cs4 := Own.cs o4
  have le4 := owns_le o4.1
  have hnn : n4 = n3 := by have := E3.out; omega
  subst hnn
  replace cs1 := cs1.mono hb (Nat.le_refl _)
  replace cs2 := cs2.mono hb (Nat.le_refl _)
  replace cs3 := cs3.mono hb (Nat.le_refl _)
  replace b1 := b1.next hb
  clear h4 o4 hb hdy
  go_wp2_with (first | (at_make; refine Stop.un ?_) | (at_builtin; refine Stop.un ?_) | (with_reducible refine Stop.conv 24 9 ?_) | (with_reducible refine Stop.conv 9 24 ?_))
  refine (shown_any _).mono ?_
  rintro e w5 ⟨rfl, hb⟩
  replace cs1 := cs1.mono hb (Nat.le_refl _)
  replace cs2 := cs2.mono hb (Nat.le_refl _)
  replace cs3 := cs3.mono hb (Nat.le_refl _)
  replace cs4 := cs4.mono hb (Nat.le_refl _)
  replace b1 := b1.next hb
  have hq1 : ((strOf fr).toList == (strOf fr).toList) = true := by simp
  have hq2 : (fe == fe) = true := by simp
  have hq3 : (tkF uo == tkF uo) = true := by simp
  clear hb
  generalize tkF uo = ku at hq3 ⊢
  generalize uo.getD [] = ul at E3 cs3 cs4
  go_wp2_with (first | (at_make; refine Stop.un ?_) | (at_builtin; refine Stop.un ?_) | (with_reducible refine Stop.conv 24 9 ?_) | (with_reducible refine Stop.conv 9 24 ?_))
  refine Stop.mk (wpList_conv Try.underlying24 Try.underlying5 Try.underlying9 _ rfl rfl rfl E1.out cs1 ?_)
  clear cs1
  go_wp2_with (first | (at_make; refine Stop.un ?_) | (at_builtin; refine Stop.un ?_) | (with_reducible refine Stop.conv 24 9 ?_) | (with_reducible refine Stop.conv 9 24 ?_))
  refine Stop.mk (wpList_conv Try.underlying24 Try.underlying5 Try.underlying9 _ rfl rfl rfl E1.out cs2 ?_)
  clear cs2
  go_wp2_with (first | (at_make; refine Stop.un ?_) | (at_builtin; refine Stop.un ?_) | (with_reducible refine Stop.conv 24 9 ?_) | (with_reducible refine Stop.conv 9 24 ?_))
  refine (intsEq_any a3 a4 n4 c3 c4 ul _ cs3 cs4 E3.out (by omega) le3 le4).mono ?_
  rintro e w6 ⟨rfl, hb⟩
  replace b1 := b1.next hb
  clear hb cs3 cs4
  go_wp2_with (first | (at_make; refine Stop.un ?_) | (at_builtin; refine Stop.un ?_) | (with_reducible refine Stop.conv 24 9 ?_) | (with_reducible refine Stop.conv 9 24 ?_))
  go_ret
  exact ⟨rfl, b1⟩
end Go.Proofs.Ytcjnehlbkjpgbaa
