/- RunsTell. -/
import Derived.Test.YtkgcjafediimnaaRRAt
import Derived.Test.YtkgcjafediimnaaRLay
import Derived.Test.YtkgcjafediimnaaIntsEq
set_option linter.unusedVariables false
set_option linter.unusedSimpArgs false
namespace Go.Proofs.Ytkgcjafediimnaa
open Go.RowKit
set_option maxRecDepth 100000 in
set_option maxHeartbeats 4000000 in
theorem runsTell_any (ao : Option Addr) (m cap : Nat) (l : List Rn) (p : Int) (w : World) (hc : Cs w ao (rcells l)) (hm : l.length = m) (hl : m ≤ cap) (hcm : cap ≤ maxLen) (hwf : ∀ r ∈ l, r.k ≤ 9223372036854775807) :
    Calls Try.prog 5 #[.slice ao m cap, .int .i64 p] w (fun e w' => e = .returned (.bool true) ∧ Below w.heap.size w w') := by
  have hF := Lib.hid (fun w => some_any ao m cap w hl hcm)
  have hx : (l.take (min m 500)).length = min m 500 := by simp; omega
  have hcx := rcut hc (min m 500)
  have hwx : ∀ r ∈ l.take (min m 500), r.k ≤ 9223372036854775807 := fun n hn => hwf n (List.mem_of_mem_take hn)
  have hfc : min m 500 ≤ cap := by omega
  generalize l.take (min m 500) = x at hx hcx hwx
  generalize min m 500 = f at hF hx hfc
  have H1 := Lib.hid (fun w hc => flat_any ao f cap x w hc hx hfc hcm hwx)
  have H2 := Lib.hid (fun w hc => rflat_any ao f cap x w hc hx hfc hcm)
  have H3 := Lib.hid (fun w hc => at_any ao f cap x p w hc hx hfc hcm hwx)
  have H4 := Lib.hid (fun w hc => rat_any ao f cap x p w hc hx hfc hcm)
  have H5 := Lib.hid (fun w hc => right_any ao f cap x w hc hx hfc hcm hwx)
  have H6 := Lib.hid (fun w hc => rright_any ao f cap x w hc hx hfc hcm)
  generalize flatE x = fl at H1 H2
  generalize errR x = er at H1 H2
  generalize atN x p = rn at H3 H4
  generalize atI x p = ri at H3 H4
  generalize atOk x p = ro at H3 H4
  generalize rightR x = rr at H5 H6
  clear hc hm hwf hx hwx
  go_enter Try.func5, Try.ntmps5
  go_wp2_with (first | (at_make; refine Stop.un ?_) | (at_builtin; refine Stop.un ?_) | (with_reducible refine Stop.conv 24 9 ?_) | (with_reducible refine Stop.conv 9 24 ?_))
  refine (hF.out _).mono ?_
  rintro e w1 ⟨rfl, rfl⟩
  go_wp2_with (first | (at_make; refine Stop.un ?_) | (at_builtin; refine Stop.un ?_) | (with_reducible refine Stop.conv 24 9 ?_) | (with_reducible refine Stop.conv 9 24 ?_))
  refine (H1.out _ hcx).mono ?_
  rintro e w1 ⟨a1, n1, c1, h1, rfl, o1⟩
  have b1 := Own.below o1
  have le1 := owns_le o1.1
  have mx1 := owns_max o1.1
  unfold maxLen at mx1
  have cs1 := Own.cs o1
  have E1 := Lib.hid h1
  replace hcx := hcx.mono b1 (Nat.le_refl _)
  clear h1 o1 hF
  go_wp2_with (first | (at_make; refine Stop.un ?_) | (at_builtin; refine Stop.un ?_) | (with_reducible refine Stop.conv 24 9 ?_) | (with_reducible refine Stop.conv 9 24 ?_))
  refine (H2.out _ hcx).mono ?_
  rintro e w2 ⟨a2, n2, c2, h2, rfl, o2⟩
  have hb := Own.below o2
  have le2 := owns_le o2.1
  have cs2 := Own.cs o2
  have hnn : n2 = n1 := by have := E1.out; omega
  subst hnn
  replace hcx := hcx.mono hb (Nat.le_refl _)
  replace cs1 := cs1.mono hb (Nat.le_refl _)
  replace b1 := b1.next hb
  clear h2 o2 hb
  go_wp2_with (first | (at_make; refine Stop.un ?_) | (at_builtin; refine Stop.un ?_) | (with_reducible refine Stop.conv 24 9 ?_) | (with_reducible refine Stop.conv 9 24 ?_))
  refine (H3.out _ hcx).mono ?_
  rintro e w3 ⟨rfl, hb⟩
  replace hcx := hcx.mono hb (Nat.le_refl _)
  replace cs1 := cs1.mono hb (Nat.le_refl _)
  replace cs2 := cs2.mono hb (Nat.le_refl _)
  replace b1 := b1.next hb
  clear hb
  go_wp2_with (first | (at_make; refine Stop.un ?_) | (at_builtin; refine Stop.un ?_) | (with_reducible refine Stop.conv 24 9 ?_) | (with_reducible refine Stop.conv 9 24 ?_))
  refine (H4.out _ hcx).mono ?_
  rintro e w4 ⟨rfl, hb⟩
  replace hcx := hcx.mono hb (Nat.le_refl _)
  replace cs1 := cs1.mono hb (Nat.le_refl _)
  replace cs2 := cs2.mono hb (Nat.le_refl _)
  replace b1 := b1.next hb
  clear hb
  go_wp2_with (first | (at_make; refine Stop.un ?_) | (at_builtin; refine Stop.un ?_) | (with_reducible refine Stop.conv 24 9 ?_) | (with_reducible refine Stop.conv 9 24 ?_))
  refine (shown_any _).mono ?_
  rintro e w5 ⟨rfl, hb⟩
  replace hcx := hcx.mono hb (Nat.le_refl _)
  replace cs1 := cs1.mono hb (Nat.le_refl _)
  replace cs2 := cs2.mono hb (Nat.le_refl _)
  replace b1 := b1.next hb
  clear hb
  go_wp2_with (first | (at_make; refine Stop.un ?_) | (at_builtin; refine Stop.un ?_) | (with_reducible refine Stop.conv 24 9 ?_) | (with_reducible refine Stop.conv 9 24 ?_))
  refine (H5.out _ hcx).mono ?_
  rintro e w6 ⟨rfl, hb⟩
  replace hcx := hcx.mono hb (Nat.le_refl _)
  replace cs1 := cs1.mono hb (Nat.le_refl _)
  replace cs2 := cs2.mono hb (Nat.le_refl _)
  replace b1 := b1.next hb
  clear hb
  go_wp2_with (first | (at_make; refine Stop.un ?_) | (at_builtin; refine Stop.un ?_) | (with_reducible refine Stop.conv 24 9 ?_) | (with_reducible refine Stop.conv 9 24 ?_))
  refine (H6.out _ hcx).mono ?_
  rintro e w7 ⟨rfl, hb⟩
  replace hcx := hcx.mono hb (Nat.le_refl _)
  replace cs1 := cs1.mono hb (Nat.le_refl _)
  replace cs2 := cs2.mono hb (Nat.le_refl _)
  replace b1 := b1.next hb
  clear hb
  have hq1 : (rr == rr) = true := by simp
  have hq2 : (er == er) = true := by simp
  have hq3 : (rn == rn) = true := by simp
  have hq4 : (ri == ri) = true := by simp
  have hq5 : (ro == ro) = true := by simp
  go_wp2_with (first | (at_make; refine Stop.un ?_) | (at_builtin; refine Stop.un ?_) | (with_reducible refine Stop.conv 24 9 ?_) | (with_reducible refine Stop.conv 9 24 ?_))
  refine (intsEq_any a1 a2 n2 c1 c2 fl _ cs1 cs2 E1.out (by omega) le1 le2).mono ?_
  rintro e w8 ⟨rfl, hb⟩
  replace b1 := b1.next hb
  clear hb
  clear hcx cs1 cs2
  go_wp2_with (first | (at_make; refine Stop.un ?_) | (at_builtin; refine Stop.un ?_) | (with_reducible refine Stop.conv 24 9 ?_) | (with_reducible refine Stop.conv 9 24 ?_))
  go_ret
  exact ⟨rfl, b1⟩
end Go.Proofs.Ytkgcjafediimnaa
