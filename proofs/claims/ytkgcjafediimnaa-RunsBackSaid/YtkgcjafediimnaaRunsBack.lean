/- RunsBack. -/
import Derived.Test.YtkgcjafediimnaaRunsTake
set_option linter.unusedVariables false
set_option linter.unusedSimpArgs false
namespace Go.Proofs.Ytkgcjafediimnaa
open Go.RowKit
theorem right_of (l : List Int) (h : l.length ≤ 4096) : rightR (ofR l) = true := by unfold rightR; rw [apart_of, errR_of l h]; rfl
theorem right_flat {rs : List Rn} (h : rightR rs = true) : errR rs = 0 ∧ ofR (flatE rs) = rs := by
  have h2 := h
  rw [right_eq] at h2
  simp only [Bool.and_eq_true, decide_eq_true_eq] at h2
  exact h2
set_option maxRecDepth 100000 in
set_option maxHeartbeats 16000000 in
theorem runsBack_any (ao : Option Addr) (m cap : Nat) (l : List Int) (ro : Option Addr) (mr capr : Nat) (rl : List Rn) (bo : Option Addr) (mb capb : Nat) (bl : List UInt8) (w : World)
    (hc : Cs w ao (icells l)) (hm : l.length = m) (hl : m ≤ cap) (hcm : cap ≤ maxLen) (hwf : ∀ n ∈ l, -9223372036854775808 ≤ n ∧ n ≤ 9223372036854775807)
    (hrc : Cs w ro (rcells rl)) (hrm : rl.length = mr) (hrl : mr ≤ capr) (hrcm : capr ≤ maxLen) (hrwf : ∀ r ∈ rl, r.k ≤ 9223372036854775807)
    (hbc : Cs w bo (bcells bl)) (hbm : bl.length = mb) (hbl : mb ≤ capb) (hbcm : capb ≤ maxLen) :
    Calls Try.prog 7 #[.slice ao m cap, .slice ro mr capr, .slice bo mb capb] w (fun e w' => e = .returned (.bool true) ∧ Below w.heap.size w w') := by
  have hx : (l.take (min m 4096)).length = min m 4096 := by simp; omega
  have hcx := icut hc (min m 4096)
  have hwx : ∀ n ∈ l.take (min m 4096), -9223372036854775808 ≤ n ∧ n ≤ 9223372036854775807 := fun n hn => hwf n (List.mem_of_mem_take hn)
  have hf5 : min m 4096 ≤ 4096 := by omega
  have hfc : min m 4096 ≤ cap := by omega
  have hmin : min (m : Int) 4096 = ((min m 4096 : Nat) : Int) := by omega
  generalize l.take (min m 4096) = x at hx hcx hwx
  have hcm' := hcm
  unfold maxLen at hcm'
  have HMIN := Lib.hid hmin
  generalize min m 4096 = f at hx hf5 hfc HMIN
  have hS := Lib.hid (fun w => some_any ro mr capr w hrl hrcm)
  have hy : (rl.take (min mr 500)).length = min mr 500 := by simp; omega
  have hcy := rcut hrc (min mr 500)
  have hwy : ∀ r ∈ rl.take (min mr 500), r.k ≤ 9223372036854775807 := fun n hn => hrwf n (List.mem_of_mem_take hn)
  have hgc : min mr 500 ≤ capr := by omega
  generalize rl.take (min mr 500) = y at hy hcy hwy
  generalize min mr 500 = gy at hS hy hgc
  have hz : (bl.take (min mb 2000)).length = min mb 2000 := by simp; omega
  have hcz := bcut hbc (min mb 2000)
  have hh5 : min mb 2000 ≤ 2000 := by omega
  have hhc : min mb 2000 ≤ capb := by omega
  have hminb : min (mb : Int) 2000 = ((min mb 2000 : Nat) : Int) := by omega
  generalize bl.take (min mb 2000) = z at hz hcz
  have hbcm' := hbcm
  unfold maxLen at hbcm'
  have HMINB := Lib.hid hminb
  generalize min mb 2000 = h at hz hh5 hhc HMINB
  have HX := Lib.hid hx
  have HZ := Lib.hid hz
  have hxl : x.length ≤ 4096 := by omega
  have HO := Lib.hid (fun w hc => of_any ao f cap x w hc hx hfc hcm (by omega))
  have HP := Lib.hid (fun w hc => put_any ao f cap x w hc hx hfc hcm (by omega) hwx)
  have hpr : putR x = putR x ∧ putC x = 0 := ⟨rfl, by unfold putC; rw [if_pos hxl]⟩
  rw [hpr.2] at HP
  have HOP := Lib.hid (ofR_pos x)
  have HOK := Lib.hid (ofR_k x)
  have hoe := errR_of x hxl
  have hofl : flatE (ofR x) = x := by rw [flatE_ok hoe, flat_of]
  have hor := right_of x hxl
  have hol := ofR_length x
  have HFO := Lib.hid (fun (a : Option Addr) (n c : Nat) (w : World) hc hm hl hcm => flat_any a n c (ofR x) w hc hm hl hcm (fun r hr => by have := (ofR_k x r hr).2; omega))
  rw [hofl, hoe] at HFO
  have HRO := Lib.hid (fun (a : Option Addr) (n c : Nat) (w : World) hc hm hl hcm => right_any a n c (ofR x) w hc hm hl hcm (fun r hr => by have := (ofR_k x r hr).2; omega))
  rw [hor] at HRO
  have HTP := Lib.hid (fun (a : Option Addr) (n c : Nat) (w : World) hc hm hl => take_any a n c (putR x) w hc hm hl)
  rw [takeO_put hxl hwx] at HTP
  have hpl : (putR x).length ≤ 4000000000 := by
    unfold putR runsB
    rw [if_pos hxl, List.length_append]
    have h1 := (numB_length (ofR x).length).2
    have h2 : ∀ rs : List Rn, (rs.flatMap runB).length ≤ 18 * rs.length := by
      intro rs
      induction rs with
      | nil => simp
      | cons r t ih =>
        rw [List.flatMap_cons, List.length_append, List.length_cons]
        have e1 := (intB_length r.n).2
        have e2 := (numB_length r.k.toNat).2
        have e3 : (runB r).length = (intB r.n).length + (numB r.k.toNat).length := by rw [runB, List.length_append]
        omega
    have h3 := h2 (ofR x)
    omega
  have HFY := Lib.hid (fun w hc => flat_any ro gy capr y w hc hy hgc hrcm hwy)
  have HRY := Lib.hid (fun w hc => right_any ro gy capr y w hc hy hgc hrcm hwy)
  have HYR := Lib.hid (fun h => right_flat (rs := y) h)
  have hyl := flatE_len y
  have HTZ := Lib.hid (fun w hc => take_any bo h capb z w hc hz (by omega))
  have HZP := Lib.hid (fun (l : List Int) (h : takeO z = some l) => put_takeO h)
  have HZC := Lib.hid (@takeO_none_C z)
  generalize putR x = px at HP HTP hpl
  clear hc hm hwf hrc hrm hrwf hbc hbm hx hwx hmin hwy hminb hz hpr hoe hofl hor
  go_enter Try.func7, Try.ntmps7
  go_wp2_with (first | (at_make; refine Stop.un ?_) | (at_builtin; refine Stop.un ?_) | (with_reducible refine Stop.conv 24 9 ?_) | (with_reducible refine Stop.conv 9 24 ?_))
  refine (shown_any _).mono ?_
  rintro e w1 ⟨rfl, b1⟩
  have hb := b1
  replace hcx := hcx.mono hb (Nat.le_refl _)
  replace hcy := hcy.mono hb (Nat.le_refl _)
  replace hcz := hcz.mono hb (Nat.le_refl _)
  clear hb
  go_wp2_with (first | (at_make; refine Stop.un ?_) | (at_builtin; refine Stop.un ?_) | (with_reducible refine Stop.conv 24 9 ?_) | (with_reducible refine Stop.conv 9 24 ?_) | (with_reducible refine Stop.slice ?_))
  rw [HMIN.out]
  refine Stop.mk ?_
  clear HMIN
  go_wp2_with (first | (at_make; refine Stop.un ?_) | (at_builtin; refine Stop.un ?_) | (with_reducible refine Stop.conv 24 9 ?_) | (with_reducible refine Stop.conv 9 24 ?_))
  refine (HO.out _ hcx).mono ?_
  rintro e w2 ⟨a1, n1, c1, h1, rfl, o1⟩
  have hb := Own.below o1
  have cs1 := Own.cs o1
  have le1 := owns_le o1.1
  have mx1 := owns_max o1.1
  have H1 := Lib.hid h1
  replace hcx := hcx.mono hb (Nat.le_refl _)
  replace hcy := hcy.mono hb (Nat.le_refl _)
  replace hcz := hcz.mono hb (Nat.le_refl _)
  replace b1 := b1.next hb
  clear hb h1 o1
  go_wp2_with (first | (at_make; refine Stop.un ?_) | (at_builtin; refine Stop.un ?_) | (with_reducible refine Stop.conv 24 9 ?_) | (with_reducible refine Stop.conv 9 24 ?_))
  refine (HFO.out a1 n1 c1 _ cs1 H1.out le1 mx1).mono ?_
  rintro e w3 ⟨a2, n2, c2, h2, rfl, o2⟩
  have hb := Own.below o2
  have cs2 := Own.cs o2
  have le2 := owns_le o2.1
  have mx2 := owns_max o2.1
  have H2 := Lib.hid h2
  replace hcx := hcx.mono hb (Nat.le_refl _)
  replace hcy := hcy.mono hb (Nat.le_refl _)
  replace hcz := hcz.mono hb (Nat.le_refl _)
  replace b1 := b1.next hb
  clear hb h2 o2
  have hn2 : n2 = f := by rw [← H2.out]; exact HX.out
  subst hn2
  clear cs1 H1 le1 mx1 HFO
  have hle2 : n2 ≤ 9223372036854775807 := by omega
  go_wp2_with (first | (at_make; refine Stop.un ?_) | (at_builtin; refine Stop.un ?_) | (with_reducible refine Stop.conv 24 9 ?_) | (with_reducible refine Stop.conv 9 24 ?_))
  refine (intsEq_any a2 ao n2 c2 cap x _ cs2 hcx H2.out hle2 le2 hfc).mono ?_
  rintro e w4 ⟨rfl, hb⟩
  replace hcx := hcx.mono hb (Nat.le_refl _)
  replace hcy := hcy.mono hb (Nat.le_refl _)
  replace hcz := hcz.mono hb (Nat.le_refl _)
  replace b1 := b1.next hb
  clear hb
  clear cs2
  go_wp2_with (first | (at_make; refine Stop.un ?_) | (at_builtin; refine Stop.un ?_) | (with_reducible refine Stop.conv 24 9 ?_) | (with_reducible refine Stop.conv 9 24 ?_))
  refine (HO.out _ hcx).mono ?_
  rintro e w5 ⟨a3, n3, c3, h3, rfl, o3⟩
  have hb := Own.below o3
  have cs3 := Own.cs o3
  have le3 := owns_le o3.1
  have mx3 := owns_max o3.1
  have H3 := Lib.hid h3
  replace hcx := hcx.mono hb (Nat.le_refl _)
  replace hcy := hcy.mono hb (Nat.le_refl _)
  replace hcz := hcz.mono hb (Nat.le_refl _)
  replace b1 := b1.next hb
  clear hb h3 o3
  go_wp2_with (first | (at_make; refine Stop.un ?_) | (at_builtin; refine Stop.un ?_) | (with_reducible refine Stop.conv 24 9 ?_) | (with_reducible refine Stop.conv 9 24 ?_))
  refine (HRO.out a3 n3 c3 _ cs3 H3.out le3 mx3).mono ?_
  rintro e w6 ⟨rfl, hb⟩
  replace hcx := hcx.mono hb (Nat.le_refl _)
  replace hcy := hcy.mono hb (Nat.le_refl _)
  replace hcz := hcz.mono hb (Nat.le_refl _)
  replace b1 := b1.next hb
  clear hb
  clear cs3 H3 le3 mx3 HRO HO
  go_wp2_with (first | (at_make; refine Stop.un ?_) | (at_builtin; refine Stop.un ?_) | (with_reducible refine Stop.conv 24 9 ?_) | (with_reducible refine Stop.conv 9 24 ?_))
  refine (hS.out _).mono ?_
  rintro e w7 ⟨rfl, rfl⟩
  clear hS
  go_wp2_with (first | (at_make; refine Stop.un ?_) | (at_builtin; refine Stop.un ?_) | (with_reducible refine Stop.conv 24 9 ?_) | (with_reducible refine Stop.conv 9 24 ?_))
  refine (HFY.out _ hcy).mono ?_
  rintro e w7 ⟨a4, n4, c4, h4, rfl, o4⟩
  have hb := Own.below o4
  have cs4 := Own.cs o4
  have le4 := owns_le o4.1
  have mx4 := owns_max o4.1
  have H4 := Lib.hid h4
  replace hcx := hcx.mono hb (Nat.le_refl _)
  replace hcy := hcy.mono hb (Nat.le_refl _)
  replace hcz := hcz.mono hb (Nat.le_refl _)
  replace b1 := b1.next hb
  clear hb h4 o4
  clear HFY
  go_wp2_with (first | (at_make; refine Stop.un ?_) | (at_builtin; refine Stop.un ?_) | (with_reducible refine Stop.conv 24 9 ?_) | (with_reducible refine Stop.conv 9 24 ?_))
  refine (HRY.out _ hcy).mono ?_
  rintro e w8 ⟨rfl, hb⟩
  replace hcx := hcx.mono hb (Nat.le_refl _)
  replace hcy := hcy.mono hb (Nat.le_refl _)
  replace hcz := hcz.mono hb (Nat.le_refl _)
  replace cs4 := cs4.mono hb (Nat.le_refl _)
  replace b1 := b1.next hb
  clear hb
  clear HRY
  cases hr : rightR y with
  | true =>
    obtain ⟨he, hof⟩ := HYR.out hr
    have hyl2 := hyl
    rw [he]
    have HOY := Lib.hid (fun w hc => of_any a4 n4 c4 (flatE y) w hc H4.out le4 mx4 (by have := H4.out; omega))
    rw [hof] at HOY
    clear he hof hr HYR
    go_wp2_with (first | (at_make; refine Stop.un ?_) | (at_builtin; refine Stop.un ?_) | (with_reducible refine Stop.conv 24 9 ?_) | (with_reducible refine Stop.conv 9 24 ?_))
    refine (HOY.out _ cs4).mono ?_
    rintro e w14 ⟨a9, n9, c9, h9, rfl, o9⟩
    have hb := Own.below o9
    have cs9 := Own.cs o9
    have le9 := owns_le o9.1
    have mx9 := owns_max o9.1
    have H9 := Lib.hid h9
    replace hcx := hcx.mono hb (Nat.le_refl _)
    replace hcy := hcy.mono hb (Nat.le_refl _)
    replace hcz := hcz.mono hb (Nat.le_refl _)
    replace b1 := b1.next hb
    clear hb h9 o9
    clear HOY cs4
    have HSA := Lib.hid (fun w hc hd => same_any a9 ro n9 gy c9 capr y y w hc hd H9.out hy le9 mx9 hgc hrcm)
    rw [decide_eq_true rfl] at HSA
    have HY := Lib.hid hy
    clear hy
    go_wp2_with (first | (at_make; refine Stop.un ?_) | (at_builtin; refine Stop.un ?_) | (with_reducible refine Stop.conv 24 9 ?_) | (with_reducible refine Stop.conv 9 24 ?_))
    refine (HSA.out _ cs9 hcy).mono ?_
    rintro e w15 ⟨rfl, hb⟩
    replace hcx := hcx.mono hb (Nat.le_refl _)
    replace hcy := hcy.mono hb (Nat.le_refl _)
    replace hcz := hcz.mono hb (Nat.le_refl _)
    replace b1 := b1.next hb
    clear hb
    clear HSA cs9 H9 le9 mx9 H4 le4 mx4
    go_wp2_with (first | (at_make; refine Stop.un ?_) | (at_builtin; refine Stop.un ?_) | (with_reducible refine Stop.conv 24 9 ?_) | (with_reducible refine Stop.conv 9 24 ?_))
    refine (HP.out _ hcx).mono ?_
    rintro e w9 ⟨a5, n5, c5, h5, rfl, o5⟩
    have hb := Own.below o5
    have cs5 := Own.cs o5
    have le5 := owns_le o5.1
    have mx5 := owns_max o5.1
    have H5 := Lib.hid h5
    replace hcx := hcx.mono hb (Nat.le_refl _)
    replace hcy := hcy.mono hb (Nat.le_refl _)
    replace hcz := hcz.mono hb (Nat.le_refl _)
    replace b1 := b1.next hb
    clear hb h5 o5
    clear HP
    have hn5 : n5 ≤ 4000000000 := by have := H5.out; omega
    go_wp2_with (first | (at_make; refine Stop.un ?_) | (at_builtin; refine Stop.un ?_) | (with_reducible refine Stop.conv 24 9 ?_) | (with_reducible refine Stop.conv 9 24 ?_))
    refine (HTP.out a5 n5 c5 _ cs5 H5.out hn5).mono ?_
    rintro e w10 ⟨a6, n6, c6, h6, rfl, o6⟩
    have hb := Own.below o6
    have cs6 := Own.cs o6
    have le6 := owns_le o6.1
    have mx6 := owns_max o6.1
    have H6 := Lib.hid h6
    replace hcx := hcx.mono hb (Nat.le_refl _)
    replace hcy := hcy.mono hb (Nat.le_refl _)
    replace hcz := hcz.mono hb (Nat.le_refl _)
    replace b1 := b1.next hb
    clear hb h6 o6
    have hn6 : n6 = n2 := by rw [← H6.out]; exact HX.out
    subst hn6
    clear HTP cs5 H5 le5 mx5
    rw [show tkC (some x) = 0 from rfl]
    simp only [Option.getD_some] at cs6 H6
    go_wp2_with (first | (at_make; refine Stop.un ?_) | (at_builtin; refine Stop.un ?_) | (with_reducible refine Stop.conv 24 9 ?_) | (with_reducible refine Stop.conv 9 24 ?_) | (with_reducible refine Stop.slice ?_))
    rw [HMINB.out]
    refine Stop.mk ?_
    clear HMINB
    go_wp2_with (first | (at_make; refine Stop.un ?_) | (at_builtin; refine Stop.un ?_) | (with_reducible refine Stop.conv 24 9 ?_) | (with_reducible refine Stop.conv 9 24 ?_))
    refine (HTZ.out _ hcz).mono ?_
    rintro e w11 ⟨a7, n7, c7, h7, rfl, o7⟩
    have hb := Own.below o7
    have cs7 := Own.cs o7
    have le7 := owns_le o7.1
    have mx7 := owns_max o7.1
    have H7 := Lib.hid h7
    replace hcx := hcx.mono hb (Nat.le_refl _)
    replace hcy := hcy.mono hb (Nat.le_refl _)
    replace hcz := hcz.mono hb (Nat.le_refl _)
    replace cs6 := cs6.mono hb (Nat.le_refl _)
    replace b1 := b1.next hb
    clear hb h7 o7
    clear HTZ
    cases ht : takeO z with
    | some s =>
      obtain ⟨hs1, hs2, hs3, _⟩ := HZP.out s ht
      rw [ht] at cs7 H7
      rw [show tkC (some s) = 0 from rfl]
      simp only [Option.getD_some] at cs7 H7
      clear HZP HZC ht
      have HPS := Lib.hid (fun w hc => put_any a7 n7 c7 s w hc H7.out le7 mx7 (by have := H7.out; omega) hs2)
      rw [hs3] at HPS
      have hpc : putC s = 0 := by unfold putC; rw [if_pos hs1]
      rw [hpc] at HPS
      clear hs1 hs2 hs3 hpc
      go_wp2_with (first | (at_make; refine Stop.un ?_) | (at_builtin; refine Stop.un ?_) | (with_reducible refine Stop.conv 24 9 ?_) | (with_reducible refine Stop.conv 9 24 ?_))
      refine (HPS.out _ cs7).mono ?_
      rintro e w12 ⟨a8, n8, c8, h8, rfl, o8⟩
      have hb := Own.below o8
      have cs8 := Own.cs o8
      have le8 := owns_le o8.1
      have mx8 := owns_max o8.1
      have H8 := Lib.hid h8
      replace hcx := hcx.mono hb (Nat.le_refl _)
      replace hcy := hcy.mono hb (Nat.le_refl _)
      replace hcz := hcz.mono hb (Nat.le_refl _)
      replace cs6 := cs6.mono hb (Nat.le_refl _)
      replace b1 := b1.next hb
      clear hb h8 o8
      clear HPS cs7 H7 le7 mx7
      have hq : ((strOf z).toList == (strOf z).toList) = true := by simp
      go_wp2_with (first | (at_make; refine Stop.un ?_) | (at_builtin; refine Stop.un ?_) | (with_reducible refine Stop.conv 24 9 ?_) | (with_reducible refine Stop.conv 9 24 ?_))
      refine (intsEq_any a6 ao n6 c6 cap x _ cs6 hcx H6.out hle2 le6 hfc).mono ?_
      rintro e w13 ⟨rfl, hb⟩
      replace hcx := hcx.mono hb (Nat.le_refl _)
      replace hcy := hcy.mono hb (Nat.le_refl _)
      replace hcz := hcz.mono hb (Nat.le_refl _)
      replace cs8 := cs8.mono hb (Nat.le_refl _)
      replace b1 := b1.next hb
      clear hb
      clear cs6 hcx hcy
      go_wp2_with (first | (at_make; refine Stop.un ?_) | (at_builtin; refine Stop.un ?_) | (with_reducible refine Stop.conv 24 9 ?_) | (with_reducible refine Stop.conv 9 24 ?_))
      refine Stop.mk (wpList_conv Try.underlying24 Try.underlying5 Try.underlying9 _ rfl rfl rfl H8.out cs8 ?_)
      clear cs8
      go_wp2_with (first | (at_make; refine Stop.un ?_) | (at_builtin; refine Stop.un ?_) | (with_reducible refine Stop.conv 24 9 ?_) | (with_reducible refine Stop.conv 9 24 ?_))
      refine Stop.mk (wpList_conv Try.underlying24 Try.underlying5 Try.underlying9 _ rfl rfl rfl HZ.out hcz ?_)
      clear hcz
      go_wp2_with (first | (at_make; refine Stop.un ?_) | (at_builtin; refine Stop.un ?_) | (with_reducible refine Stop.conv 24 9 ?_) | (with_reducible refine Stop.conv 9 24 ?_))
      go_ret
      exact ⟨rfl, b1⟩
    | none =>
      rw [ht] at cs7 H7
      rw [show tkC none = 6 from rfl]
      simp only [Option.getD_none] at cs7 H7
      clear HZP HZC ht
      have hn7 : n7 = 0 := H7.out.symm
      subst hn7
      have HPS := Lib.hid (fun w hc => put_any a7 0 c7 [] w hc rfl le7 mx7 (by omega) (fun n hn => by simp at hn))
      go_wp2_with (first | (at_make; refine Stop.un ?_) | (at_builtin; refine Stop.un ?_) | (with_reducible refine Stop.conv 24 9 ?_) | (with_reducible refine Stop.conv 9 24 ?_))
      refine (HPS.out _ cs7).mono ?_
      rintro e w12 ⟨a8, n8, c8, h8, rfl, o8⟩
      have hb := Own.below o8
      have cs8 := Own.cs o8
      have le8 := owns_le o8.1
      have mx8 := owns_max o8.1
      have H8 := Lib.hid h8
      replace hcx := hcx.mono hb (Nat.le_refl _)
      replace hcy := hcy.mono hb (Nat.le_refl _)
      replace hcz := hcz.mono hb (Nat.le_refl _)
      replace cs6 := cs6.mono hb (Nat.le_refl _)
      replace b1 := b1.next hb
      clear hb h8 o8
      clear HPS cs7 H7 le7 mx7 cs8 H8 le8 mx8
      rw [show putC [] = 0 from rfl]
      go_wp2_with (first | (at_make; refine Stop.un ?_) | (at_builtin; refine Stop.un ?_) | (with_reducible refine Stop.conv 24 9 ?_) | (with_reducible refine Stop.conv 9 24 ?_))
      refine (intsEq_any a6 ao n6 c6 cap x _ cs6 hcx H6.out hle2 le6 hfc).mono ?_
      rintro e w13 ⟨rfl, hb⟩
      replace hcx := hcx.mono hb (Nat.le_refl _)
      replace hcy := hcy.mono hb (Nat.le_refl _)
      replace hcz := hcz.mono hb (Nat.le_refl _)
      replace b1 := b1.next hb
      clear hb
      clear cs6 hcx hcy hcz
      go_wp2_with (first | (at_make; refine Stop.un ?_) | (at_builtin; refine Stop.un ?_) | (with_reducible refine Stop.conv 24 9 ?_) | (with_reducible refine Stop.conv 9 24 ?_))
      go_ret
      exact ⟨rfl, b1⟩
  | false =>
    clear hr HYR cs4 H4 le4 mx4
    have HY := Lib.hid hy
    clear hy
    generalize errR y = ey
    go_wp2_with (first | (at_make; refine Stop.un ?_) | (at_builtin; refine Stop.un ?_) | (with_reducible refine Stop.conv 24 9 ?_) | (with_reducible refine Stop.conv 9 24 ?_))
    refine (HP.out _ hcx).mono ?_
    rintro e w9 ⟨a5, n5, c5, h5, rfl, o5⟩
    have hb := Own.below o5
    have cs5 := Own.cs o5
    have le5 := owns_le o5.1
    have mx5 := owns_max o5.1
    have H5 := Lib.hid h5
    replace hcx := hcx.mono hb (Nat.le_refl _)
    replace hcy := hcy.mono hb (Nat.le_refl _)
    replace hcz := hcz.mono hb (Nat.le_refl _)
    replace b1 := b1.next hb
    clear hb h5 o5
    clear HP
    have hn5 : n5 ≤ 4000000000 := by have := H5.out; omega
    go_wp2_with (first | (at_make; refine Stop.un ?_) | (at_builtin; refine Stop.un ?_) | (with_reducible refine Stop.conv 24 9 ?_) | (with_reducible refine Stop.conv 9 24 ?_))
    refine (HTP.out a5 n5 c5 _ cs5 H5.out hn5).mono ?_
    rintro e w10 ⟨a6, n6, c6, h6, rfl, o6⟩
    have hb := Own.below o6
    have cs6 := Own.cs o6
    have le6 := owns_le o6.1
    have mx6 := owns_max o6.1
    have H6 := Lib.hid h6
    replace hcx := hcx.mono hb (Nat.le_refl _)
    replace hcy := hcy.mono hb (Nat.le_refl _)
    replace hcz := hcz.mono hb (Nat.le_refl _)
    replace b1 := b1.next hb
    clear hb h6 o6
    have hn6 : n6 = n2 := by rw [← H6.out]; exact HX.out
    subst hn6
    clear HTP cs5 H5 le5 mx5
    rw [show tkC (some x) = 0 from rfl]
    simp only [Option.getD_some] at cs6 H6
    go_wp2_with (first | (at_make; refine Stop.un ?_) | (at_builtin; refine Stop.un ?_) | (with_reducible refine Stop.conv 24 9 ?_) | (with_reducible refine Stop.conv 9 24 ?_) | (with_reducible refine Stop.slice ?_))
    rw [HMINB.out]
    refine Stop.mk ?_
    clear HMINB
    go_wp2_with (first | (at_make; refine Stop.un ?_) | (at_builtin; refine Stop.un ?_) | (with_reducible refine Stop.conv 24 9 ?_) | (with_reducible refine Stop.conv 9 24 ?_))
    refine (HTZ.out _ hcz).mono ?_
    rintro e w11 ⟨a7, n7, c7, h7, rfl, o7⟩
    have hb := Own.below o7
    have cs7 := Own.cs o7
    have le7 := owns_le o7.1
    have mx7 := owns_max o7.1
    have H7 := Lib.hid h7
    replace hcx := hcx.mono hb (Nat.le_refl _)
    replace hcy := hcy.mono hb (Nat.le_refl _)
    replace hcz := hcz.mono hb (Nat.le_refl _)
    replace cs6 := cs6.mono hb (Nat.le_refl _)
    replace b1 := b1.next hb
    clear hb h7 o7
    clear HTZ
    cases ht : takeO z with
    | some s =>
      obtain ⟨hs1, hs2, hs3, _⟩ := HZP.out s ht
      rw [ht] at cs7 H7
      rw [show tkC (some s) = 0 from rfl]
      simp only [Option.getD_some] at cs7 H7
      clear HZP HZC ht
      have HPS := Lib.hid (fun w hc => put_any a7 n7 c7 s w hc H7.out le7 mx7 (by have := H7.out; omega) hs2)
      rw [hs3] at HPS
      have hpc : putC s = 0 := by unfold putC; rw [if_pos hs1]
      rw [hpc] at HPS
      clear hs1 hs2 hs3 hpc
      go_wp2_with (first | (at_make; refine Stop.un ?_) | (at_builtin; refine Stop.un ?_) | (with_reducible refine Stop.conv 24 9 ?_) | (with_reducible refine Stop.conv 9 24 ?_))
      refine (HPS.out _ cs7).mono ?_
      rintro e w12 ⟨a8, n8, c8, h8, rfl, o8⟩
      have hb := Own.below o8
      have cs8 := Own.cs o8
      have le8 := owns_le o8.1
      have mx8 := owns_max o8.1
      have H8 := Lib.hid h8
      replace hcx := hcx.mono hb (Nat.le_refl _)
      replace hcy := hcy.mono hb (Nat.le_refl _)
      replace hcz := hcz.mono hb (Nat.le_refl _)
      replace cs6 := cs6.mono hb (Nat.le_refl _)
      replace b1 := b1.next hb
      clear hb h8 o8
      clear HPS cs7 H7 le7 mx7
      have hq : ((strOf z).toList == (strOf z).toList) = true := by simp
      go_wp2_with (first | (at_make; refine Stop.un ?_) | (at_builtin; refine Stop.un ?_) | (with_reducible refine Stop.conv 24 9 ?_) | (with_reducible refine Stop.conv 9 24 ?_))
      refine (intsEq_any a6 ao n6 c6 cap x _ cs6 hcx H6.out hle2 le6 hfc).mono ?_
      rintro e w13 ⟨rfl, hb⟩
      replace hcx := hcx.mono hb (Nat.le_refl _)
      replace hcy := hcy.mono hb (Nat.le_refl _)
      replace hcz := hcz.mono hb (Nat.le_refl _)
      replace cs8 := cs8.mono hb (Nat.le_refl _)
      replace b1 := b1.next hb
      clear hb
      clear cs6 hcx hcy
      go_wp2_with (first | (at_make; refine Stop.un ?_) | (at_builtin; refine Stop.un ?_) | (with_reducible refine Stop.conv 24 9 ?_) | (with_reducible refine Stop.conv 9 24 ?_))
      refine Stop.mk (wpList_conv Try.underlying24 Try.underlying5 Try.underlying9 _ rfl rfl rfl H8.out cs8 ?_)
      clear cs8
      go_wp2_with (first | (at_make; refine Stop.un ?_) | (at_builtin; refine Stop.un ?_) | (with_reducible refine Stop.conv 24 9 ?_) | (with_reducible refine Stop.conv 9 24 ?_))
      refine Stop.mk (wpList_conv Try.underlying24 Try.underlying5 Try.underlying9 _ rfl rfl rfl HZ.out hcz ?_)
      clear hcz
      go_wp2_with (first | (at_make; refine Stop.un ?_) | (at_builtin; refine Stop.un ?_) | (with_reducible refine Stop.conv 24 9 ?_) | (with_reducible refine Stop.conv 9 24 ?_))
      go_ret
      exact ⟨rfl, b1⟩
    | none =>
      rw [ht] at cs7 H7
      rw [show tkC none = 6 from rfl]
      simp only [Option.getD_none] at cs7 H7
      clear HZP HZC ht
      have hn7 : n7 = 0 := H7.out.symm
      subst hn7
      have HPS := Lib.hid (fun w hc => put_any a7 0 c7 [] w hc rfl le7 mx7 (by omega) (fun n hn => by simp at hn))
      go_wp2_with (first | (at_make; refine Stop.un ?_) | (at_builtin; refine Stop.un ?_) | (with_reducible refine Stop.conv 24 9 ?_) | (with_reducible refine Stop.conv 9 24 ?_))
      refine (HPS.out _ cs7).mono ?_
      rintro e w12 ⟨a8, n8, c8, h8, rfl, o8⟩
      have hb := Own.below o8
      have cs8 := Own.cs o8
      have le8 := owns_le o8.1
      have mx8 := owns_max o8.1
      have H8 := Lib.hid h8
      replace hcx := hcx.mono hb (Nat.le_refl _)
      replace hcy := hcy.mono hb (Nat.le_refl _)
      replace hcz := hcz.mono hb (Nat.le_refl _)
      replace cs6 := cs6.mono hb (Nat.le_refl _)
      replace b1 := b1.next hb
      clear hb h8 o8
      clear HPS cs7 H7 le7 mx7 cs8 H8 le8 mx8
      rw [show putC [] = 0 from rfl]
      go_wp2_with (first | (at_make; refine Stop.un ?_) | (at_builtin; refine Stop.un ?_) | (with_reducible refine Stop.conv 24 9 ?_) | (with_reducible refine Stop.conv 9 24 ?_))
      refine (intsEq_any a6 ao n6 c6 cap x _ cs6 hcx H6.out hle2 le6 hfc).mono ?_
      rintro e w13 ⟨rfl, hb⟩
      replace hcx := hcx.mono hb (Nat.le_refl _)
      replace hcy := hcy.mono hb (Nat.le_refl _)
      replace hcz := hcz.mono hb (Nat.le_refl _)
      replace b1 := b1.next hb
      clear hb
      clear cs6 hcx hcy hcz
      go_wp2_with (first | (at_make; refine Stop.un ?_) | (at_builtin; refine Stop.un ?_) | (with_reducible refine Stop.conv 24 9 ?_) | (with_reducible refine Stop.conv 9 24 ?_))
      go_ret
      exact ⟨rfl, b1⟩
end Go.Proofs.Ytkgcjafediimnaa
