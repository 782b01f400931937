/- PackRound. -/
import Derived.Test.YtcjnehlbkjpgbaaPShown
import Derived.Test.YtcjnehlbkjpgbaaUnframe
import Derived.Test.YtcjnehlbkjpgbaaIntsEq
set_option linter.unusedVariables false
set_option linter.unusedSimpArgs false
namespace Go.Proofs.Ytcjnehlbkjpgbaa
open Go.RowKit
theorem unfO_len (bs : List UInt8) : ((unfO bs).getD []).length ≤ 4096 := by
  cases h : unfO bs with
  | none => simp
  | some l => exact (unfO_some h).2.2.1
theorem unfO_inI (bs : List UInt8) : inI ((unfO bs).getD []) := by
  cases h : unfO bs with
  | none => intro n hn; cases hn
  | some l => exact (unfO_some h).2.1
theorem frameR_ok (l : List Int) (h : l.length ≤ 4096) : frameR l = frameB l ∧ frameE l = 0 := ⟨if_neg (by omega), if_neg (by omega)⟩
theorem intB_length (n : Int) : (intB n).length ≤ 9 := (numB_length _).2
theorem frameB_length (l : List Int) (h : l.length ≤ 4096) : (frameB l).length ≤ 40000 := by
  unfold frameB
  have h1 := (numB_length l.length).2
  split
  · simp; omega
  · have h2 := intB_length (minE l)
    have h3 := (numB_length (widN (moreL l))).2
    have h4 := packB_length (moreL l) (widN (moreL l))
    have h5 : l.length * widN (moreL l) ≤ 4096 * 64 := Nat.mul_le_mul h (widN_le64 _)
    rw [moreL_length] at h4
    simp only [List.length_append]
    omega
set_option maxRecDepth 100000 in
set_option maxHeartbeats 4000000 in
theorem packRound_any (ao : Option Addr) (m0 cap : Nat) (l : List Int) (bo : Option Addr) (k0 capb : Nat) (bs : List UInt8) (w : World)
    (hc : Cs w ao (icells l)) (hm : l.length = m0) (hl : m0 ≤ cap) (hcm : cap ≤ maxLen) (hi : inI l)
    (hd : Cs w bo (bcells bs)) (hk : bs.length = k0) (hlb : k0 ≤ capb) (hcmb : capb ≤ maxLen) :
    Calls Try.prog 7 #[.slice ao m0 cap, .slice bo k0 capb] w (fun e w' => e = .returned (.bool true) ∧ Below w.heap.size w w') := by
  have hx : (l.take (min m0 1000)).length = min m0 1000 := by simp; omega
  have hcx := icut hc (min m0 1000)
  have hix : inI (l.take (min m0 1000)) := fun n hn => hi n (List.mem_of_mem_take hn)
  have hfc : min m0 1000 ≤ cap := by omega
  have hf5 : min m0 1000 ≤ 1000 := by omega
  have hmin1 : min (m0 : Int) 1000 = ((min m0 1000 : Nat) : Int) := by omega
  generalize l.take (min m0 1000) = x at hx hcx hix
  have hy : (bs.take (min k0 4000)).length = min k0 4000 := by simp; omega
  have hdy := bcut hd (min k0 4000)
  have hgc : min k0 4000 ≤ capb := by omega
  have hg4 : min k0 4000 ≤ 4000 := by omega
  have hmin2 : min (k0 : Int) 4000 = ((min k0 4000 : Nat) : Int) := by omega
  generalize bs.take (min k0 4000) = y at hy hdy
  have hfr := frameR_ok x (by omega)
  have hfl := frameB_length x (by omega)
  have huf := unfO_frame x (by omega) hix
  have H1 : Hid (∀ w, Cs w ao (icells x) → Calls Try.prog 20 #[.slice ao (min m0 1000) cap] w (RetP w (frameB x) 0)) := Lib.hid (fun w hc => by
    have h := frame_any ao (min m0 1000) cap x w hc hx hfc hcm hix
    rwa [hfr.1, hfr.2] at h)
  have H2 : Hid (∀ a n c w, (frameB x).length = n → Cs w a (bcells (frameB x)) → n ≤ c → Calls Try.prog 22 #[.slice a n c] w (RetK w (some x))) := Lib.hid (fun a n c w hn hc hcn => by
    have h := unframe_any a n c (frameB x) w hc hn hcn (by omega)
    rwa [huf] at h)
  have H3 := Lib.hid (fun w hc => unframe_any bo (min k0 4000) capb y w hc hy hgc (by omega))
  have hul := unfO_len y
  have H4 : Hid (∀ a n c w, ((unfO y).getD []).length = n → Cs w a (icells ((unfO y).getD [])) → n ≤ c → c ≤ maxLen → Calls Try.prog 20 #[.slice a n c] w (RetP w (frameB ((unfO y).getD [])) 0)) := Lib.hid (fun a n c w hn hc hcn hcm => by
    have h := frame_any a n c _ w hc hn hcn hcm (unfO_inI y)
    rwa [(frameR_ok _ hul).1, (frameR_ok _ hul).2] at h)
  have huy : (∃ l, unfO y = some l ∧ frameB l = y) ∨ unfO y = none := by
    cases h : unfO y with
    | none => exact .inr rfl
    | some l => exact .inl ⟨l, rfl, (unfO_some h).1⟩
  unfold maxLen at hcm hcmb
  have HMIN1 := Lib.hid hmin1
  have HMIN2 := Lib.hid hmin2
  have HX := Lib.hid hx
  have HY := Lib.hid hy
  generalize min m0 1000 = f at hx hfc HMIN1 hf5 H1 HX
  generalize min k0 4000 = g at hy hgc HMIN2 hg4 H3 HY
  generalize frameB x = fr at H1 H2
  generalize unfO y = uo at H3 H4 huy hul
  clear hc hm hi hx hmin1 hd hk hy hmin2 hix hfr hfl huf
  go_enter Try.func7, Try.ntmps7
  go_wp2_with (first | (at_make; refine Stop.un ?_) | (at_builtin; refine Stop.un ?_) | (with_reducible refine Stop.conv 24 9 ?_) | (with_reducible refine Stop.conv 9 24 ?_))
  refine (shown_any _).mono ?_
  rintro e w0 ⟨rfl, b1⟩
  replace hcx := hcx.mono b1 (Nat.le_refl _)
  replace hdy := hdy.mono b1 (Nat.le_refl _)
  go_wp2_with (first | (at_make; refine Stop.un ?_) | (at_builtin; refine Stop.un ?_) | (with_reducible refine Stop.conv 24 9 ?_) | (with_reducible refine Stop.conv 9 24 ?_) | (with_reducible refine Stop.slice ?_))
  rw [HMIN1.out]
  refine Stop.mk ?_
  clear HMIN1
  go_wp2_with (first | (at_make; refine Stop.un ?_) | (at_builtin; refine Stop.un ?_) | (with_reducible refine Stop.conv 24 9 ?_) | (with_reducible refine Stop.conv 9 24 ?_))
  refine (H1.out _ hcx).mono ?_
  rintro e w1 ⟨a1, n1, c1, h1, rfl, o1⟩
  have cs1 := Own.cs o1
  have le1 := owns_le o1.1
  have E1 := Lib.hid h1
  replace hcx := hcx.mono (Own.below o1) (Nat.le_refl _)
  replace hdy := hdy.mono (Own.below o1) (Nat.le_refl _)
  replace b1 := b1.next (Own.below o1)
  clear h1 o1
  go_wp2_with (first | (at_make; refine Stop.un ?_) | (at_builtin; refine Stop.un ?_) | (with_reducible refine Stop.conv 24 9 ?_) | (with_reducible refine Stop.conv 9 24 ?_))
  refine (H2.out _ _ _ _ E1.out cs1 le1).mono ?_
  rintro e w2 ⟨a2, n2, c2, h2, rfl, o2⟩
  have hnf : n2 = f := by rw [← h2]; exact HX.out
  subst hnf
  have cs2 := Own.cs o2
  have le2 := owns_le o2.1
  replace hcx := hcx.mono (Own.below o2) (Nat.le_refl _)
  replace hdy := hdy.mono (Own.below o2) (Nat.le_refl _)
  replace b1 := b1.next (Own.below o2)
  clear h2 o2 cs1
  rw [show tkF (some x) = 0 from rfl]
  rw [Option.getD_some] at cs2
  go_wp2_with (first | (at_make; refine Stop.un ?_) | (at_builtin; refine Stop.un ?_) | (with_reducible refine Stop.conv 24 9 ?_) | (with_reducible refine Stop.conv 9 24 ?_) | (with_reducible refine Stop.slice ?_))
  rw [HMIN2.out]
  refine Stop.mk ?_
  clear HMIN2
  go_wp2_with (first | (at_make; refine Stop.un ?_) | (at_builtin; refine Stop.un ?_) | (with_reducible refine Stop.conv 24 9 ?_) | (with_reducible refine Stop.conv 9 24 ?_))
  refine (H3.out _ hdy).mono ?_
  rintro e w3 ⟨a3, n3, c3, h3, rfl, o3⟩
  have hb := Own.below o3
  have cs3 := Own.cs o3
  have le3 := owns_le o3.1
  have mx3 := owns_max o3.1
  have E3 := Lib.hid h3
  replace hcx := hcx.mono hb (Nat.le_refl _)
  replace hdy := hdy.mono hb (Nat.le_refl _)
  replace cs2 := cs2.mono hb (Nat.le_refl _)
  replace b1 := b1.next hb
  clear h3 o3 hb
  go_wp2_with (first | (at_make; refine Stop.un ?_) | (at_builtin; refine Stop.un ?_) | (with_reducible refine Stop.conv 24 9 ?_) | (with_reducible refine Stop.conv 9 24 ?_))
  refine (H4.out _ _ _ _ E3.out cs3 le3 mx3).mono ?_
  rintro e w4 ⟨a4, n4, c4, h4, rfl, o4⟩
  have hb := Own.below o4
  have cs4 := Own.cs o4
  have E4 := Lib.hid h4
  replace hcx := hcx.mono hb (Nat.le_refl _)
  replace hdy := hdy.mono hb (Nat.le_refl _)
  replace cs2 := cs2.mono hb (Nat.le_refl _)
  replace b1 := b1.next hb
  clear h4 o4 hb cs3
  go_wp2_with (first | (at_make; refine Stop.un ?_) | (at_builtin; refine Stop.un ?_) | (with_reducible refine Stop.conv 24 9 ?_) | (with_reducible refine Stop.conv 9 24 ?_))
  refine (intsEq_any a2 ao n2 c2 cap x _ cs2 hcx HX.out (by omega) le2 hfc).mono ?_
  rintro e w5 ⟨rfl, hb⟩
  replace hdy := hdy.mono hb (Nat.le_refl _)
  replace cs4 := cs4.mono hb (Nat.le_refl _)
  replace b1 := b1.next hb
  clear hb cs2 hcx
  rcases huy with ⟨u, rfl, hu⟩ | rfl
  · rw [Option.getD_some] at cs4 E4
    rw [hu] at cs4 E4
    rw [show tkF (some u) = 0 from rfl]
    have hq1 : ((strOf y).toList == (strOf y).toList) = true := by simp
    have hn4 : n4 = g := by rw [← E4.out]; exact HY.out
    subst hn4
    clear E3 hul hu H3 H4
    go_wp2_with (first | (at_make; refine Stop.un ?_) | (at_builtin; refine Stop.un ?_) | (with_reducible refine Stop.conv 24 9 ?_) | (with_reducible refine Stop.conv 9 24 ?_))
    refine Stop.mk (wpList_conv Try.underlying24 Try.underlying5 Try.underlying9 _ rfl rfl rfl HY.out cs4 ?_)
    clear cs4
    go_wp2_with (first | (at_make; refine Stop.un ?_) | (at_builtin; refine Stop.un ?_) | (with_reducible refine Stop.conv 24 9 ?_) | (with_reducible refine Stop.conv 9 24 ?_))
    refine Stop.mk (wpList_conv Try.underlying24 Try.underlying5 Try.underlying9 _ rfl rfl rfl HY.out hdy ?_)
    clear hdy
    go_wp2_with (first | (at_make; refine Stop.un ?_) | (at_builtin; refine Stop.un ?_) | (with_reducible refine Stop.conv 24 9 ?_) | (with_reducible refine Stop.conv 9 24 ?_))
    go_ret
    exact ⟨rfl, b1⟩
  · have hn3 : n3 = 0 := by have := E3.out; simpa using this.symm
    subst hn3
    rw [show tkF none = 6 from rfl]
    clear E3 E4 cs4 hdy H3 H4
    go_wp2_with (first | (at_make; refine Stop.un ?_) | (at_builtin; refine Stop.un ?_) | (with_reducible refine Stop.conv 24 9 ?_) | (with_reducible refine Stop.conv 9 24 ?_))
    go_ret
    exact ⟨rfl, b1⟩
end Go.Proofs.Ytcjnehlbkjpgbaa
