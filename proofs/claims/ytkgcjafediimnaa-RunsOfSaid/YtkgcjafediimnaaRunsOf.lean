/- RunsOf. -/
import Derived.Test.YtkgcjafediimnaaRLay
set_option linter.unusedVariables false
set_option linter.unusedSimpArgs false
namespace Go.Proofs.Ytkgcjafediimnaa
open Go.RowKit
set_option maxRecDepth 100000 in
set_option maxHeartbeats 2000000 in
theorem runsOf_any (ao : Option Addr) (m cap : Nat) (l : List Int) (w : World) (hc : Cs w ao (icells l)) (hm : l.length = m) (hl : m ≤ cap) (hcm : cap ≤ maxLen) (hwf : ∀ n ∈ l, -9223372036854775808 ≤ n ∧ n ≤ 9223372036854775807) :
    Calls Try.prog 3 #[.slice ao m cap] w (fun e w' => e = .returned (.bool true) ∧ Below w.heap.size w w') := by
  have hF := Lib.hid (fun w => few_any ao m cap w hl hcm)
  have hx : (l.take (min m 5000)).length = min m 5000 := by simp; omega
  have hcx := icut hc (min m 5000)
  have hwx : ∀ n ∈ l.take (min m 5000), -9223372036854775808 ≤ n ∧ n ≤ 9223372036854775807 := fun n hn => hwf n (List.mem_of_mem_take hn)
  have hf5 : min m 5000 ≤ 5000 := by omega
  have hfc : min m 5000 ≤ cap := by omega
  generalize l.take (min m 5000) = x at hx hcx hwx
  generalize min m 5000 = f at hF hx hf5 hfc
  have HP := Lib.hid (fun w hc => put_any ao f cap x w hc hx hfc hcm hf5 hwx)
  have HRP := Lib.hid (fun w hc => rput_any ao f cap x w hc hx hfc hcm hf5 hwx)
  have HO := Lib.hid (fun w hc => of_any ao f cap x w hc hx hfc hcm hf5)
  have HRO := Lib.hid (fun w hc => rof_any ao f cap x w hc hx hfc hcm hf5)
  generalize putR x = p at HP HRP
  generalize putC x = pc at HP HRP
  generalize ofR x = rs at HO HRO
  clear hc hm hwf hx hwx
  go_enter Try.func3, Try.ntmps3
  go_wp2_with (first | (at_make; refine Stop.un ?_) | (at_builtin; refine Stop.un ?_) | (with_reducible refine Stop.conv 24 9 ?_) | (with_reducible refine Stop.conv 9 24 ?_))
  refine (hF.out _).mono ?_
  rintro e w1 ⟨rfl, rfl⟩
  go_wp2_with (first | (at_make; refine Stop.un ?_) | (at_builtin; refine Stop.un ?_) | (with_reducible refine Stop.conv 24 9 ?_) | (with_reducible refine Stop.conv 9 24 ?_))
  refine (HP.out _ hcx).mono ?_
  rintro e w1 ⟨a1, n1, c1, h1, rfl, o1⟩
  have b1 := Own.below o1
  have cs1 := Own.cs o1
  have H1 := Lib.hid h1
  replace hcx := hcx.mono b1 (Nat.le_refl _)
  clear h1 o1
  go_wp2_with (first | (at_make; refine Stop.un ?_) | (at_builtin; refine Stop.un ?_) | (with_reducible refine Stop.conv 24 9 ?_) | (with_reducible refine Stop.conv 9 24 ?_))
  refine (HRP.out _ hcx).mono ?_
  rintro e w2 ⟨a2, n2, c2, h2, rfl, o2⟩
  have hb := Own.below o2
  have cs2 := Own.cs o2
  have H2 := Lib.hid h2
  replace hcx := hcx.mono hb (Nat.le_refl _)
  replace cs1 := cs1.mono hb (Nat.le_refl _)
  replace b1 := b1.next hb
  clear h2 o2 hb
  go_wp2_with (first | (at_make; refine Stop.un ?_) | (at_builtin; refine Stop.un ?_) | (with_reducible refine Stop.conv 24 9 ?_) | (with_reducible refine Stop.conv 9 24 ?_))
  refine (shown_any _).mono ?_
  rintro e w3 ⟨rfl, hb⟩
  replace hcx := hcx.mono hb (Nat.le_refl _)
  replace cs1 := cs1.mono hb (Nat.le_refl _)
  replace cs2 := cs2.mono hb (Nat.le_refl _)
  replace b1 := b1.next hb
  clear hb
  go_wp2_with (first | (at_make; refine Stop.un ?_) | (at_builtin; refine Stop.un ?_) | (with_reducible refine Stop.conv 24 9 ?_) | (with_reducible refine Stop.conv 9 24 ?_))
  refine (HO.out _ hcx).mono ?_
  rintro e w4 ⟨a3, n3, c3, h3, rfl, o3⟩
  have hb := Own.below o3
  have cs3 := Own.cs o3
  have le3 := owns_le o3.1
  have mx3 := owns_max o3.1
  have H3 := Lib.hid h3
  replace hcx := hcx.mono hb (Nat.le_refl _)
  replace cs1 := cs1.mono hb (Nat.le_refl _)
  replace cs2 := cs2.mono hb (Nat.le_refl _)
  replace b1 := b1.next hb
  clear h3 o3 hb
  go_wp2_with (first | (at_make; refine Stop.un ?_) | (at_builtin; refine Stop.un ?_) | (with_reducible refine Stop.conv 24 9 ?_) | (with_reducible refine Stop.conv 9 24 ?_))
  refine (HRO.out _ hcx).mono ?_
  rintro e w5 ⟨a4, n4, c4, h4, rfl, o4⟩
  have hb := Own.below o4
  have cs4 := Own.cs o4
  have le4 := owns_le o4.1
  have mx4 := owns_max o4.1
  have H4 := Lib.hid h4
  replace cs1 := cs1.mono hb (Nat.le_refl _)
  replace cs2 := cs2.mono hb (Nat.le_refl _)
  replace cs3 := cs3.mono hb (Nat.le_refl _)
  replace b1 := b1.next hb
  clear h4 o4 hb hcx
  go_wp2_with (first | (at_make; refine Stop.un ?_) | (at_builtin; refine Stop.un ?_) | (with_reducible refine Stop.conv 24 9 ?_) | (with_reducible refine Stop.conv 9 24 ?_))
  refine (same_any a3 a4 n3 n4 c3 c4 rs rs _ cs3 cs4 H3.out H4.out le3 mx3 le4 mx4).mono ?_
  rw [decide_eq_true rfl]
  rintro e w6 ⟨rfl, hb⟩
  replace cs1 := cs1.mono hb (Nat.le_refl _)
  replace cs2 := cs2.mono hb (Nat.le_refl _)
  replace b1 := b1.next hb
  have hs : ((strOf p).toList == (strOf p).toList) = true := by simp
  clear hb cs3 cs4 le3 mx3 le4 mx4 H3 H4
  go_wp2_with (first | (at_make; refine Stop.un ?_) | (at_builtin; refine Stop.un ?_) | (with_reducible refine Stop.conv 24 9 ?_) | (with_reducible refine Stop.conv 9 24 ?_))
  refine Stop.mk (wpList_conv Try.underlying24 Try.underlying5 Try.underlying9 _ rfl rfl rfl H1.out cs1 ?_)
  go_wp2_with (first | (at_make; refine Stop.un ?_) | (at_builtin; refine Stop.un ?_) | (with_reducible refine Stop.conv 24 9 ?_) | (with_reducible refine Stop.conv 9 24 ?_))
  refine Stop.mk (wpList_conv Try.underlying24 Try.underlying5 Try.underlying9 _ rfl rfl rfl H2.out cs2 ?_)
  go_wp2_with (first | (at_make; refine Stop.un ?_) | (at_builtin; refine Stop.un ?_) | (with_reducible refine Stop.conv 24 9 ?_) | (with_reducible refine Stop.conv 9 24 ?_))
  go_ret
  exact ⟨rfl, b1⟩
end Go.Proofs.Ytkgcjafediimnaa
