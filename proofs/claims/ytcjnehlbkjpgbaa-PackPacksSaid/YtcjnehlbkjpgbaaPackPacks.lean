/- PackPacks. -/
import Derived.Test.YtcjnehlbkjpgbaaPShown
set_option linter.unusedVariables false
set_option linter.unusedSimpArgs false
namespace Go.Proofs.Ytcjnehlbkjpgbaa
open Go.RowKit
set_option maxRecDepth 100000 in
set_option maxHeartbeats 4000000 in
theorem packPacks_any (ao : Option Addr) (m cap : Nat) (l : List Nat) (many width : Int) (w : World) (hc : Cs w ao (ucells l)) (hm : l.length = m) (hl : m ≤ cap) (hcm : cap ≤ maxLen) (hu : ∀ x ∈ l, x < 2 ^ 64) :
    Calls Try.prog 3 #[.slice ao m cap, .int .i64 many, .int .i64 width] w (fun e w' => e = .returned (.bool true) ∧ Below w.heap.size w w') := by
  have hF := Lib.hid (fun w => few_any ao m cap w hl hcm)
  have hx : (l.take (min m 5000)).length = min m 5000 := by simp; omega
  have hcx := ucut hc (min m 5000)
  have hux : ∀ x ∈ l.take (min m 5000), x < 2 ^ 64 := fun n hn => hu n (List.mem_of_mem_take hn)
  have hfc : min m 5000 ≤ cap := by omega
  have hf5 : min m 5000 ≤ 5000 := by omega
  generalize l.take (min m 5000) = x at hx hcx hux
  generalize min m 5000 = f at hF hx hfc hf5
  have H1 := Lib.hid (fun w hc => pack_any ao f cap width x w hc hx hfc hux)
  have H2 := Lib.hid (fun w hc => rpack_any ao f cap width x w hc hx hfc hux)
  have H3 := Lib.hid (fun w => bytes_any many width w)
  have H4 := Lib.hid (fun w => rbytes_any many width w)
  have H5 := Lib.hid (fun w hc => width_any ao f cap x w hc hx hfc (by unfold maxLen; omega) hux)
  have H6 := Lib.hid (fun w hc => rwidth_any ao f cap x w hc hx hfc (by unfold maxLen; omega) hux)
  generalize packR x width = pr at H1 H2
  generalize packE x width = pe at H1 H2
  generalize bytN many width = bn at H3 H4
  generalize bytE many width = be at H3 H4
  generalize widN x = wn at H5 H6
  clear hc hm hu hx hux
  go_enter Try.func3, Try.ntmps3
  go_wp2_with (first | (at_make; refine Stop.un ?_) | (at_builtin; refine Stop.un ?_) | (with_reducible refine Stop.conv 24 9 ?_) | (with_reducible refine Stop.conv 9 24 ?_))
  refine (hF.out _).mono ?_
  rintro e w1 ⟨rfl, rfl⟩
  go_wp2_with (first | (at_make; refine Stop.un ?_) | (at_builtin; refine Stop.un ?_) | (with_reducible refine Stop.conv 24 9 ?_) | (with_reducible refine Stop.conv 9 24 ?_))
  refine (H1.out _ hcx).mono ?_
  rintro e w1 ⟨a1, n1, c1, h1, rfl, o1⟩
  have b1 := Own.below o1
  have cs1 := Own.cs o1
  have E1 := Lib.hid h1
  replace hcx := hcx.mono b1 (Nat.le_refl _)
  clear h1 o1 hF
  go_wp2_with (first | (at_make; refine Stop.un ?_) | (at_builtin; refine Stop.un ?_) | (with_reducible refine Stop.conv 24 9 ?_) | (with_reducible refine Stop.conv 9 24 ?_))
  refine (H2.out _ hcx).mono ?_
  rintro e w2 ⟨a2, n2, c2, h2, rfl, o2⟩
  have hb := Own.below o2
  have cs2 := Own.cs o2
  have hnn : n2 = n1 := by have := E1.out; omega
  subst hnn
  replace hcx := hcx.mono hb (Nat.le_refl _)
  replace cs1 := cs1.mono hb (Nat.le_refl _)
  replace b1 := b1.next hb
  clear h2 o2 hb
  go_wp2_with (first | (at_make; refine Stop.un ?_) | (at_builtin; refine Stop.un ?_) | (with_reducible refine Stop.conv 24 9 ?_) | (with_reducible refine Stop.conv 9 24 ?_))
  refine (H3.out _).mono ?_
  rintro e w3 ⟨rfl, rfl⟩
  go_wp2_with (first | (at_make; refine Stop.un ?_) | (at_builtin; refine Stop.un ?_) | (with_reducible refine Stop.conv 24 9 ?_) | (with_reducible refine Stop.conv 9 24 ?_))
  refine (H4.out _).mono ?_
  rintro e w3 ⟨rfl, rfl⟩
  go_wp2_with (first | (at_make; refine Stop.un ?_) | (at_builtin; refine Stop.un ?_) | (with_reducible refine Stop.conv 24 9 ?_) | (with_reducible refine Stop.conv 9 24 ?_))
  refine (shown_any _).mono ?_
  rintro e w3 ⟨rfl, hb⟩
  replace hcx := hcx.mono hb (Nat.le_refl _)
  replace cs1 := cs1.mono hb (Nat.le_refl _)
  replace cs2 := cs2.mono hb (Nat.le_refl _)
  replace b1 := b1.next hb
  have hq1 : ((strOf pr).toList == (strOf pr).toList) = true := by simp
  have hq2 : (pe == pe) = true := by simp
  have hq3 : (bn == bn) = true := by simp
  have hq4 : (be == be) = true := by simp
  have hq5 : ((wn : Int) == (wn : Int)) = true := by simp
  clear hb
  go_wp2_with (first | (at_make; refine Stop.un ?_) | (at_builtin; refine Stop.un ?_) | (with_reducible refine Stop.conv 24 9 ?_) | (with_reducible refine Stop.conv 9 24 ?_))
  refine Stop.mk (wpList_conv Try.underlying24 Try.underlying5 Try.underlying9 _ rfl rfl rfl E1.out cs1 ?_)
  clear cs1
  go_wp2_with (first | (at_make; refine Stop.un ?_) | (at_builtin; refine Stop.un ?_) | (with_reducible refine Stop.conv 24 9 ?_) | (with_reducible refine Stop.conv 9 24 ?_))
  refine Stop.mk (wpList_conv Try.underlying24 Try.underlying5 Try.underlying9 _ rfl rfl rfl E1.out cs2 ?_)
  clear cs2
  go_wp2_with (first | (at_make; refine Stop.un ?_) | (at_builtin; refine Stop.un ?_) | (with_reducible refine Stop.conv 24 9 ?_) | (with_reducible refine Stop.conv 9 24 ?_))
  refine (H5.out _ hcx).mono ?_
  rintro e w4 ⟨rfl, rfl⟩
  go_wp2_with (first | (at_make; refine Stop.un ?_) | (at_builtin; refine Stop.un ?_) | (with_reducible refine Stop.conv 24 9 ?_) | (with_reducible refine Stop.conv 9 24 ?_))
  refine (H6.out _ hcx).mono ?_
  rintro e w4 ⟨rfl, rfl⟩
  go_wp2_with (first | (at_make; refine Stop.un ?_) | (at_builtin; refine Stop.un ?_) | (with_reducible refine Stop.conv 24 9 ?_) | (with_reducible refine Stop.conv 9 24 ?_))
  go_ret
  exact ⟨rfl, b1⟩
end Go.Proofs.Ytcjnehlbkjpgbaa
