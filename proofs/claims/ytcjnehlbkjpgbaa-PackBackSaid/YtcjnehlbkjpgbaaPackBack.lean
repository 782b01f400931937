/- PackBack. -/
import Derived.Test.YtcjnehlbkjpgbaaPShown
set_option linter.unusedVariables false
set_option linter.unusedSimpArgs false
namespace Go.Proofs.Ytcjnehlbkjpgbaa
open Go.RowKit
set_option maxRecDepth 100000 in
set_option maxHeartbeats 4000000 in
theorem packBack_any (ao : Option Addr) (m cap : Nat) (l : List Nat) (width : Int) (w : World) (hc : Cs w ao (ucells l)) (hm : l.length = m) (hl : m ≤ cap) (hcm : cap ≤ maxLen) (hu : ∀ x ∈ l, x < 2 ^ 64) :
    Calls Try.prog 5 #[.slice ao m cap, .int .i64 width] w (fun e w' => e = .returned (.bool true) ∧ Below w.heap.size w w') := by
  have hx : (l.take (min m 1000)).length = min m 1000 := by simp; omega
  have hcx := ucut hc (min m 1000)
  have hux : ∀ x ∈ l.take (min m 1000), x < 2 ^ 64 := fun n hn => hu n (List.mem_of_mem_take hn)
  have hfc : min m 1000 ≤ cap := by omega
  have hf5 : min m 1000 ≤ 1000 := by omega
  have hmin2 : min (m : Int) 1000 = ((min m 1000 : Nat) : Int) := by omega
  generalize l.take (min m 1000) = x at hx hcx hux
  have hcm' := hcm
  unfold maxLen at hcm'
  have HMIN := Lib.hid hmin2
  generalize min m 1000 = f at hx hfc HMIN hf5
  have H1 := Lib.hid (fun w hc => pack_any ao f cap width x w hc hx hfc hux)
  have H5 := Lib.hid (fun w hc => width_any ao f cap x w hc hx hfc (by unfold maxLen; omega) hux)
  have HX := Lib.hid hx
  by_cases hb : bytE f width = 0
  · obtain ⟨_, h2, h3, _⟩ := bytE_range _ _ hb
    obtain ⟨W, rfl⟩ := Int.eq_ofNat_of_zero_le h2
    by_cases hr : W < widN x
    · rw [packR_range x W (by rw [hx]; exact hb) hr, packE_range x W (by rw [hx]; exact hb) hr] at H1
      generalize widN x = wn at H5 hr
      clear hc hm hu hx hux hmin2 hb
      go_enter Try.func5, Try.ntmps5
      go_wp2_with (first | (at_make; refine Stop.un ?_) | (at_builtin; refine Stop.un ?_) | (with_reducible refine Stop.conv 24 9 ?_) | (with_reducible refine Stop.conv 9 24 ?_))
      refine (shown_any _).mono ?_
      rintro e w1 ⟨rfl, b1⟩
      replace hcx := hcx.mono b1 (Nat.le_refl _)
      go_wp2_with (first | (at_make; refine Stop.un ?_) | (at_builtin; refine Stop.un ?_) | (with_reducible refine Stop.conv 24 9 ?_) | (with_reducible refine Stop.conv 9 24 ?_) | (with_reducible refine Stop.slice ?_))
      rw [HMIN.out]
      refine Stop.mk ?_
      clear HMIN
      go_wp2_with (first | (at_make; refine Stop.un ?_) | (at_builtin; refine Stop.un ?_) | (with_reducible refine Stop.conv 24 9 ?_) | (with_reducible refine Stop.conv 9 24 ?_))
      refine (H1.out _ hcx).mono ?_
      rintro e w2 ⟨a1, n1, c1, h1, rfl, o1⟩
      replace hcx := hcx.mono (Own.below o1) (Nat.le_refl _)
      replace b1 := b1.next (Own.below o1)
      clear h1 o1
      go_wp2_with (first | (at_make; refine Stop.un ?_) | (at_builtin; refine Stop.un ?_) | (with_reducible refine Stop.conv 24 9 ?_) | (with_reducible refine Stop.conv 9 24 ?_))
      refine (H5.out _ hcx).mono ?_
      rintro e w3 ⟨rfl, rfl⟩
      go_wp2_with (first | (at_make; refine Stop.un ?_) | (at_builtin; refine Stop.un ?_) | (with_reducible refine Stop.conv 24 9 ?_) | (with_reducible refine Stop.conv 9 24 ?_))
      go_ret
      exact ⟨rfl, b1⟩
    · have hwl : widN x ≤ W := by omega
      have hxw := (widN_le x W hux).1 hwl
      have hpl := packB_length x W
      have hun := unp_pack x W hxw
      rw [hx] at hun hpl
      have hok : packB (unpN (packB x W) f W) W = packB x W := by rw [hun]
      have hbn := bytN_ok f W (by omega) (by omega)
      have hue : unpE (packB x W) f W = 0 := by rw [unpE_ok _ f W hb (by rw [hpl, hbn]), if_pos hok]
      have hur : unpR (packB x W) f W = x := by rw [unpR_ok _ f W hb (by rw [hpl, hbn]), if_pos hok, hun]
      have hve : unpE (packB x W ++ [0]) f W = 6 := unpE_len _ _ _ hb (by rw [List.length_append, hpl, hbn]; simp; omega)
      have hvr : unpR (packB x W ++ [0]) f W = [] := unpR_no _ _ _ (by rw [hve]; decide)
      rw [packR_ok x W (by rw [hx]; exact hb) hr, packE_ok x W (by rw [hx]; exact hb) hr] at H1
      have HU1 : Hid (∀ a n c w, (packB x W).length = n → Cs w a (bcells (packB x W)) → n ≤ c → Calls Try.prog 17 #[.slice a n c, .int .i64 (f : Int), .int .i64 (W : Int)] w (RetU w x 0)) := Lib.hid (fun a n c w hn hc hcn => by
        have h := unpack_any a n c f W (packB x W) w hc hn hcn
        rwa [hue, hur] at h)
      have HU2 : Hid (∀ a n c w, (packB x W ++ [0]).length = n → Cs w a (bcells (packB x W ++ [0])) → n ≤ c → Calls Try.prog 17 #[.slice a n c, .int .i64 (f : Int), .int .i64 (W : Int)] w (RetU w [] 6)) := Lib.hid (fun a n c w hn hc hcn => by
        have h := unpack_any a n c f W (packB x W ++ [0]) w hc hn hcn
        rwa [hve, hvr] at h)
      have hpl2 : (packB x W).length ≤ 40000 := by
        rw [hpl]
        have : f * W ≤ 1000 * 64 := Nat.mul_le_mul hf5 (by omega)
        omega
      have HPL := Lib.hid hpl2
      generalize packB x W = pk at H1 HU1 HU2 HPL
      generalize widN x = wn at H5 hwl hr
      clear hc hm hu hx hux hmin2 hb hxw hpl hun hok hbn hue hur hve hvr hpl2
      go_enter Try.func5, Try.ntmps5
      go_wp2_with (first | (at_make; refine Stop.un ?_) | (at_builtin; refine Stop.un ?_) | (with_reducible refine Stop.conv 24 9 ?_) | (with_reducible refine Stop.conv 9 24 ?_))
      refine (shown_any _).mono ?_
      rintro e w1 ⟨rfl, b1⟩
      replace hcx := hcx.mono b1 (Nat.le_refl _)
      go_wp2_with (first | (at_make; refine Stop.un ?_) | (at_builtin; refine Stop.un ?_) | (with_reducible refine Stop.conv 24 9 ?_) | (with_reducible refine Stop.conv 9 24 ?_) | (with_reducible refine Stop.slice ?_))
      rw [HMIN.out]
      refine Stop.mk ?_
      clear HMIN
      go_wp2_with (first | (at_make; refine Stop.un ?_) | (at_builtin; refine Stop.un ?_) | (with_reducible refine Stop.conv 24 9 ?_) | (with_reducible refine Stop.conv 9 24 ?_))
      refine (H1.out _ hcx).mono ?_
      rintro e w2 ⟨a1, n1, c1, h1, rfl, o1⟩
      have E1 := Lib.hid h1
      have hn1 : n1 ≤ 40000 := by have := HPL.out; omega
      have hcx1 := hcx
      replace hcx := hcx.mono (Own.below o1) (Nat.le_refl _)
      have le1 := owns_le o1.1
      clear h1
      go_wp2_with (first | (at_make; refine Stop.un ?_) | (at_builtin; refine Stop.un ?_) | (with_reducible refine Stop.conv 24 9 ?_) | (with_reducible refine Stop.conv 9 24 ?_))
      refine (H5.out _ hcx).mono ?_
      rintro e w3 ⟨rfl, rfl⟩
      go_wp2_with (first | (at_make; refine Stop.un ?_) | (at_builtin; refine Stop.un ?_) | (with_reducible refine Stop.conv 24 9 ?_) | (with_reducible refine Stop.conv 9 24 ?_))
      refine (HU1.out a1 n1 c1 _ E1.out (Own.cs o1) le1).mono ?_
      have h1lt := Lib.hid (o1.lt)
      rintro e w4 ⟨a4, n4, c4, h4, rfl, o4⟩
      have hnf : n4 = f := by rw [← h4]; exact HX.out
      subst hnf
      have cs4 := Own.cs o4
      have le4 := owns_le o4.1
      replace o1 := Own.keep o1 (Own.below o4)
      clear hcx
      go_wp2_with (first | (at_make; refine Stop.un ?_) | (at_builtin; refine Stop.un ?_) | (with_reducible refine Stop.conv 24 9 ?_) | (with_reducible refine Stop.conv 9 24 ?_))
      refine Stop.mk (app_b1' w1 _ _ rfl rfl o1 rfl (by decide) (by decide) rfl (by omega) ?_)
      intro a6 c6 w6 o6 hg6
      have cs6 := Own.cs_grown o4 hg6 (fun k hk => h1lt.out k hk)
      have hcx6 := hcx1.mono (Own.below o6) (Nat.le_refl _)
      replace b1 := b1.next (Own.below o6)
      have le6 := owns_le o6.1
      have ob6 := Own.cs o6
      have hl6 : (pk ++ [UInt8.ofNat (0 : Int).toNat]).length = n1 + 1 := by have := E1.out; simp; exact this
      have E6 := Lib.hid hl6
      clear o1 o4 cs4 o6 hg6 hl6 h4
      go_wp2_with (first | (at_make; refine Stop.un ?_) | (at_builtin; refine Stop.un ?_) | (with_reducible refine Stop.conv 24 9 ?_) | (with_reducible refine Stop.conv 9 24 ?_))
      refine (HU2.out a6 _ c6 _ E6.out ob6 le6).mono ?_
      rintro e w7 ⟨a7, n7, c7, h7, rfl, o7⟩
      replace cs6 := cs6.mono (Own.below o7) (Nat.le_refl _)
      replace hcx6 := hcx6.mono (Own.below o7) (Nat.le_refl _)
      replace b1 := b1.next (Own.below o7)
      clear o7 h7 ob6
      go_wp2_with (first | (at_make; refine Stop.un ?_) | (at_builtin; refine Stop.un ?_) | (with_reducible refine Stop.conv 24 9 ?_) | (with_reducible refine Stop.conv 9 24 ?_))
      refine (numsEq_any a4 ao n4 c4 cap x _ cs6 hcx6 HX.out (by omega) le4 hfc).mono ?_
      rintro e w8 ⟨rfl, hb⟩
      replace b1 := b1.next hb
      clear hb cs6 hcx6
      go_wp2_with (first | (at_make; refine Stop.un ?_) | (at_builtin; refine Stop.un ?_) | (with_reducible refine Stop.conv 24 9 ?_) | (with_reducible refine Stop.conv 9 24 ?_))
      go_ret
      exact ⟨rfl, b1⟩
  · have hb1 : bytE f width = 1 := by
      unfold bytE at hb ⊢
      split
      · rfl
      · next h => rw [if_neg h] at hb; split at hb <;> omega
    have hw : width < 0 ∨ 64 < width := by
      unfold bytE at hb1
      split at hb1
      · omega
      · split at hb1 <;> omega
    rw [packR_bad x width (by rw [hx]; exact hb), packE_bad x width (by rw [hx]; exact hb), hx, hb1] at H1
    clear hc hm hu hx hux hmin2 hb hb1 H5
    go_enter Try.func5, Try.ntmps5
    go_wp2_with (first | (at_make; refine Stop.un ?_) | (at_builtin; refine Stop.un ?_) | (with_reducible refine Stop.conv 24 9 ?_) | (with_reducible refine Stop.conv 9 24 ?_))
    refine (shown_any _).mono ?_
    rintro e w1 ⟨rfl, b1⟩
    replace hcx := hcx.mono b1 (Nat.le_refl _)
    go_wp2_with (first | (at_make; refine Stop.un ?_) | (at_builtin; refine Stop.un ?_) | (with_reducible refine Stop.conv 24 9 ?_) | (with_reducible refine Stop.conv 9 24 ?_) | (with_reducible refine Stop.slice ?_))
    rw [HMIN.out]
    refine Stop.mk ?_
    clear HMIN
    go_wp2_with (first | (at_make; refine Stop.un ?_) | (at_builtin; refine Stop.un ?_) | (with_reducible refine Stop.conv 24 9 ?_) | (with_reducible refine Stop.conv 9 24 ?_))
    refine (H1.out _ hcx).mono ?_
    rintro e w2 ⟨a1, n1, c1, h1, rfl, o1⟩
    replace b1 := b1.next (Own.below o1)
    clear h1 o1 hcx
    rcases hw with hw | hw
    · go_wp2_with (first | (at_make; refine Stop.un ?_) | (at_builtin; refine Stop.un ?_) | (with_reducible refine Stop.conv 24 9 ?_) | (with_reducible refine Stop.conv 9 24 ?_))
      go_ret
      exact ⟨rfl, b1⟩
    · have hw0 : ¬ width < 0 := by omega
      go_wp2_with (first | (at_make; refine Stop.un ?_) | (at_builtin; refine Stop.un ?_) | (with_reducible refine Stop.conv 24 9 ?_) | (with_reducible refine Stop.conv 9 24 ?_))
      go_ret
      exact ⟨rfl, b1⟩
end Go.Proofs.Ytcjnehlbkjpgbaa
