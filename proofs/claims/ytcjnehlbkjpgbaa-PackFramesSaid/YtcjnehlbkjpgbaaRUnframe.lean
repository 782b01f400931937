/- The reference's Unframe. -/
import Derived.Test.YtcjnehlbkjpgbaaUnframe
import Derived.Test.YtcjnehlbkjpgbaaRRdr
import Derived.Test.YtcjnehlbkjpgbaaRUnpack
set_option linter.unusedVariables false
set_option linter.unusedSimpArgs false
namespace Go.Proofs.Ytcjnehlbkjpgbaa
open Go.RowKit
set_option maxHeartbeats 8000000 in
set_option maxRecDepth 100000 in
theorem runframe_any (ao : Option Addr) (m cap : Nat) (bs : List UInt8) (w : World) (hc : Cs w ao (bcells bs)) (hm : bs.length = m) (hlc : m ≤ cap) (hl : m ≤ 4000000000) :
    Calls Try.prog 23 #[.slice ao m cap] w (RetK w (unfO bs)) := by
  have HM := Lib.hid hm; clear hm
  go_enter Try.func23, Try.ntmps23
  go_wp2_with (first | (at_make; refine Stop.un ?_) | (at_builtin; refine Stop.un ?_) | (with_reducible refine Stop.conv 24 9 ?_) | (with_reducible refine Stop.conv 9 24 ?_))
  have hO : OwnB w (w.alloc (.cells #[] 5)) (.slice (some ⟨w.heap.size, 0, none⟩) 0 0) 0 [] := Own.block (Below.refl _ _) rfl (by decide)
  refine Stop.mk (app_bs w _ _ rfl rfl hO rfl rfl HM.out (hc.alloc _) (by omega) ?_)
  intro ao4 cap4 w4 hO4
  simp only [Nat.zero_add, List.nil_append] at hO4
  clear hO
  have b4 := Own.below hO4
  have hw4 : w.heap.size ≤ w4.heap.size := Own.le hO4
  have hr2 : Rdr 60 w.heap.size (w4.heap.size + 1) (w4.alloc (.cells #[.slice ao4 m cap4, .bool false] 60)) w4.heap.size bs false := by
    have hlt := Own.lt hO4
    have hge := Own.ge hO4
    refine ⟨ao4, m, cap4, _root_.Go.heap_alloc_new w4 _, HM.out, owns_le hO4.1, by omega, (Own.cs hO4).alloc _, ⟨hw4, by omega⟩, ?_⟩
    intro a ha
    have h1 := hlt a.block (by subst ha; rfl)
    have h2 := hge a.block (by subst ha; rfl)
    exact ⟨by omega, h2, by omega⟩
  have b5 := b4.alloc b4.size (.cells #[.slice ao4 m cap4, .bool false] 60)
  clear hO4 b4
  go_wp2_with (first | (at_make; refine Stop.un ?_) | (at_builtin; refine Stop.un ?_) | (with_reducible refine Stop.conv 24 9 ?_) | (with_reducible refine Stop.conv 9 24 ?_))
  generalize hW5 : w4.alloc (.cells #[.slice ao4 m cap4, .bool false] 60) = w5 at hr2 b5
  clear hW5
  generalize w4.heap.size = g at hr2 hw4
  refine (rrnum_any _ _ _ g _ _ _ hr2).mono ?_
  rintro e w2 ⟨rfl, hr3, hg3⟩
  have b2 := b5.one hg3 hw4 (Nat.le_refl _)
  rw [Bool.false_or] at hr3
  have hN := rdN_lt bs
  clear hr2 hg3 b5
  by_cases h0 : rdN bs = 0
  · by_cases hE : endE (rdRest bs) (rdBad bs) = 0
    · have H2 := Lib.hid (unfO_nil h0 hE)
      rw [h0]
      clear h0 hN
      go_wp2_with (first | (at_make; refine Stop.un ?_) | (at_builtin; refine Stop.un ?_) | (with_reducible refine Stop.conv 24 9 ?_) | (with_reducible refine Stop.conv 9 24 ?_))
      refine (rrend_any _ _ _ g _ _ _ hr3).mono ?_
      rintro e w3 ⟨rfl, rfl⟩
      rw [hE]
      clear hr3 hE
      go_wp2_with (first | (at_make; refine Stop.un ?_) | (at_builtin; refine Stop.un ?_) | (with_reducible refine Stop.conv 24 9 ?_) | (with_reducible refine Stop.conv 9 24 ?_))
      go_ret2
      rw [H2.out]
      exact ⟨none, 0, 0, rfl, rfl, Own.nil _ _ b2⟩
    · have H2 := Lib.hid (unfO_end h0 hE)
      have h6 : endE (rdRest bs) (rdBad bs) = 6 := by unfold endE at *; split <;> simp_all
      rw [h0]
      clear h0 hN hE
      go_wp2_with (first | (at_make; refine Stop.un ?_) | (at_builtin; refine Stop.un ?_) | (with_reducible refine Stop.conv 24 9 ?_) | (with_reducible refine Stop.conv 9 24 ?_))
      refine (rrend_any _ _ _ g _ _ _ hr3).mono ?_
      rintro e w3 ⟨rfl, rfl⟩
      rw [h6]
      clear hr3 h6
      go_wp2_with (first | (at_make; refine Stop.un ?_) | (at_builtin; refine Stop.un ?_) | (with_reducible refine Stop.conv 24 9 ?_) | (with_reducible refine Stop.conv 9 24 ?_))
      go_ret2
      rw [H2.out]
      exact ⟨none, 0, 0, rfl, rfl, Own.nil _ _ b2⟩
  · by_cases hbig : 4096 < rdN bs
    · have H2 := Lib.hid (unfO_big hbig)
      have hN0 : ((rdN bs : Int) == 0) = false := by simp; omega
      have hN1 : decide ((4096 : Int) < (rdN bs : Int)) = true := decide_eq_true (by omega)
      generalize rdN bs = N at hN hbig h0 hN0 hN1 ⊢
      clear h0 hr3
      go_wp2_with (first | (at_make; refine Stop.un ?_) | (at_builtin; refine Stop.un ?_) | (with_reducible refine Stop.conv 24 9 ?_) | (with_reducible refine Stop.conv 9 24 ?_))
      go_ret2
      rw [H2.out]
      exact ⟨none, 0, 0, rfl, rfl, Own.nil _ _ b2⟩
    · have hN4 : rdN bs ≤ 4096 := by omega
      have HMID := Lib.hid (unfO_mid h0)
      have HREF := Lib.hid (unfO_ref h0)
      have HUR : Hid (unpE (unfRest bs) (rdN bs) (unfW bs) = 0 → unpR (unfRest bs) (rdN bs) (unfW bs) = unfMore bs) := Lib.hid unf_unp
      have HUP := Lib.hid (fun a n c w hc hb hlc => runpack_any a n c (rdN bs) (unfW bs) (unfRest bs) w hc hb hlc)
      have hW : unfW bs < 18446744073709551616 := rdN_lt _
      have hmin : -9223372036854775808 ≤ unfLeast bs ∧ unfLeast bs ≤ 9223372036854775807 := zag_in (rdN_lt (rdRest bs))
      have HML : Hid ((unfMore bs).length = rdN bs) := Lib.hid (unpN_length _ _ _)
      have HMX : Hid (unfW bs ≤ 64 → ∀ x ∈ unfMore bs, x < 2 ^ 64) := Lib.hid (unfMore_lt bs)
      have HFR := Lib.hid (fun a n c w hc hm hlc hl => rframe_any a n c (unfL bs) w hc hm hlc hl (unfL_in bs))
      rw [show frameR (unfL bs) = frameB (unfL bs) from if_neg (by rw [unfL_length]; omega)] at HFR
      have HFM : Hid (unfL bs = (unfMore bs).map (addW (unfLeast bs))) := Lib.hid rfl
      have h1 : 0 < rdN bs := by omega
      have hN0 : ((rdN bs : Int) == 0) = false := by simp; omega
      have hN1 : decide ((4096 : Int) < (rdN bs : Int)) = false := decide_eq_false (by omega)
      clear h0 hbig
      go_wp2_with (first | (at_make; refine Stop.un ?_) | (at_builtin; refine Stop.un ?_) | (with_reducible refine Stop.conv 24 9 ?_) | (with_reducible refine Stop.conv 9 24 ?_))
      refine (rrint_any _ _ _ g _ _ _ hr3).mono ?_
      rintro e w3 ⟨rfl, hr4, hg4⟩
      have b3 := b2.one hg4 hw4 (Nat.le_refl _)
      clear hr3 hg4 b2
      rw [show zag (rdN (rdRest bs)) = unfLeast bs from rfl]
      go_wp2_with (first | (at_make; refine Stop.un ?_) | (at_builtin; refine Stop.un ?_) | (with_reducible refine Stop.conv 24 9 ?_) | (with_reducible refine Stop.conv 9 24 ?_))
      refine (rrnum_any _ _ _ g _ _ _ hr4).mono ?_
      rintro e w6 ⟨rfl, hr5, hg5⟩
      have b4 := b3.one hg5 hw4 (Nat.le_refl _)
      rw [show rdN (rdRest (rdRest bs)) = unfW bs from rfl]
      replace hr5 : Rdr 60 w.heap.size (g + 1) w6 g (unfRest bs) (unfBad bs) := hr5
      clear hr4 hg5 b3
      generalize unfL bs = ul at *
      generalize unfMore bs = more at *
      generalize unfRest bs = r3 at *
      generalize unfLeast bs = least at *
      generalize unfBad bs = bad at *
      generalize unfW bs = W at *
      generalize rdN bs = N at *
      obtain ⟨aR, nR, cR, hh, hlR, hnR, hcapR, hcR, -, -⟩ := hr5
      have hB0 : w6.cell? ⟨g, 0, none⟩ = some (.slice aR nR cR) := by simpa using cell_of hh 0
      have hB1 : w6.cell? ⟨g, 1, none⟩ = some (.bool bad) := by simpa using cell_of hh 1
      have HLR := Lib.hid hlR
      clear hh hlR
      by_cases hb : bad = true
      · subst hb
        have H2 := Lib.hid (HMID.out (.inl (.inl rfl)))
        clear HMID HREF HUR HUP HFR hcR
        go_wp2_with (first | (at_make; refine Stop.un ?_) | (at_builtin; refine Stop.un ?_) | (with_reducible refine Stop.conv 24 9 ?_) | (with_reducible refine Stop.conv 9 24 ?_))
        go_ret2
        rw [H2.out]
        exact ⟨none, 0, 0, rfl, rfl, Own.nil _ _ b4⟩
      · obtain rfl : bad = false := by simpa using hb
        clear hb
        by_cases hw : 64 < W
        · have H2 := Lib.hid (HMID.out (.inl (.inr hw)))
          clear HMID HREF HUR HUP HFR hcR
          go_wp2_with (first | (at_make; refine Stop.un ?_) | (at_builtin; refine Stop.un ?_) | (with_reducible refine Stop.conv 24 9 ?_) | (with_reducible refine Stop.conv 9 24 ?_))
          go_ret2
          rw [H2.out]
          exact ⟨none, 0, 0, rfl, rfl, Own.nil _ _ b4⟩
        · have hw64 : W ≤ 64 := by omega
          clear hw
          go_wp2_with (first | (at_make; refine Stop.un ?_) | (at_builtin; refine Stop.un ?_) | (with_reducible refine Stop.conv 24 9 ?_) | (with_reducible refine Stop.conv 9 24 ?_))
          refine (HUP.out aR nR cR _ hcR HLR.out hnR).mono ?_
          rintro e w7 ⟨a6, n6, c6, h6, rfl, o6⟩
          have le6 := owns_le o6.1
          have mx6 := owns_max o6.1
          have cs6 := Own.cs o6
          have b6 := b4.next (Own.below o6)
          clear o6 hcR HUP b4 hB0 hB1
          by_cases hu : unpE r3 N W = 0
          · rw [hu]
            rw [HUR.out hu] at h6 cs6
            obtain rfl : n6 = N := by rw [← h6]; exact HML.out
            have HMM := Lib.hid (HMX.out hw64)
            have HML2 := Lib.hid h6
            clear HUR HMX HMID hu h6
            obtain ⟨b, o, rfl⟩ := cs6.addr (by rw [ucells_length, HML2.out]; omega)
            obtain ⟨wo, rfl⟩ : ∃ wo : World, wo = w7 := ⟨_, rfl⟩
            go_wp2_with (first | (at_make; refine Stop.un ?_) | (at_builtin; refine Stop.un ?_) | (with_reducible refine Stop.conv 24 9 ?_) | (with_reducible refine Stop.conv 9 24 ?_))
            go_loopw [10, 11] (fun v i wr => ∃ (j : Nat) (a : Option Addr) (c : Nat), j ≤ n6 ∧ v = .slice a j c ∧ i = .int .i64 (j : Int) ∧ OwnI wo wr (.slice a j c) j ((more.take j).map (addW least))) (fun _ i _ => n6 - (intOf i).toNat)
            case atStart => exact ⟨0, none, 0, Nat.zero_le _, rfl, rfl, Own.nil _ _ (Below.refl _ _)⟩
            case round =>
              obtain ⟨j, a, c, hj, rfl, rfl, hO⟩ := hrel
              by_cases hlt : j < n6
              · have hjl : j < more.length := by have := HML2.out; omega
                have x1 : wr.cell? ⟨b, o + j, none⟩ = some (.int .u64 ((more[j] : Nat) : Int)) := (cs6.mono (Own.below hO) (Nat.le_refl _)).at (by simp [ucells, hjl])
                have hyy : more[j] < 18446744073709551616 := HMM.out _ (List.getElem_mem _)
                have HT : Hid ((more.take (j + 1)).map (addW least) = (more.take j).map (addW least) ++ [addW least more[j]]) := Lib.hid (by rw [take_snoc_eq hjl, List.map_append]; rfl)
                generalize more[j] = y at x1 hyy HT
                go_wp2_with (first | (at_make; refine Stop.un ?_) | (at_builtin; refine Stop.un ?_) | (with_reducible refine Stop.conv 24 9 ?_) | (with_reducible refine Stop.conv 9 24 ?_))
                rw [addW_wrap]
                refine Stop.mk (app_i1 wo _ _ rfl rfl hO rfl rfl (by omega) ?_)
                intro a8 c8 w9 hO8 hg8 hk8
                rw [← HT.out] at hO8
                clear hO
                go_wp2_with (first | (at_make; refine Stop.un ?_) | (at_builtin; refine Stop.un ?_) | (with_reducible refine Stop.conv 24 9 ?_) | (with_reducible refine Stop.conv 9 24 ?_))
                go_roundw
                case rel => exact ⟨j + 1, a8, c8, by omega, by go_num, by go_num, hO8⟩
                case measure => simp [intOf]; omega
              · have hjn : j = n6 := by omega
                subst hjn
                rw [List.take_of_length_le (by rw [HML2.out]; omega), ← HFM.out] at hO
                have HUL := Lib.hid (OwnI.length hO)
                have cso := Own.cs hO
                have leo := owns_le hO.1
                have mxo := owns_max hO.1
                replace hO := Own.up hO b6
                have HREF2 := Lib.hid (HREF.out)
                clear hlt hj cs6 b6 HREF
                go_wp2_with (first | (at_make; refine Stop.un ?_) | (at_builtin; refine Stop.un ?_) | (with_reducible refine Stop.conv 24 9 ?_) | (with_reducible refine Stop.conv 9 24 ?_))
                refine (HFR.out _ _ _ _ cso HUL.out leo mxo).mono ?_
                rintro e w9 ⟨a9, n9, c9, h9, rfl, o9⟩
                have H9 := Lib.hid h9
                have hO9 := Own.keep hO (Own.below o9)
                have hm9 := hc.mono (Own.below hO9) (Nat.le_refl _)
                have hc9 := Own.cs o9
                clear h9 o9 hO cso HFR
                by_cases hB : frameB ul = bs
                · have H3 : Hid (unfO bs = some ul) := Lib.hid (by
                    rcases HREF2.out with h | h
                    · exact h
                    · exact absurd hB (h.2 hN4))
                  rw [hB] at hc9
                  have H6 : Hid (bs.length = n9) := Lib.hid (by rw [← H9.out, hB])
                  have hbb : (!(strOf bs).toList == (strOf bs).toList) = false := by simp
                  clear HREF2 hB H9
                  go_wp2_with (first | (at_make; refine Stop.un ?_) | (at_builtin; refine Stop.un ?_) | (with_reducible refine Stop.conv 24 9 ?_) | (with_reducible refine Stop.conv 9 24 ?_))
                  refine Stop.mk (wpList_conv Try.underlying24 Try.underlying5 Try.underlying9 _ rfl rfl rfl H6.out hc9 ?_)
                  clear hc9
                  go_wp2_with (first | (at_make; refine Stop.un ?_) | (at_builtin; refine Stop.un ?_) | (with_reducible refine Stop.conv 24 9 ?_) | (with_reducible refine Stop.conv 9 24 ?_))
                  refine Stop.mk (wpList_conv Try.underlying24 Try.underlying5 Try.underlying9 _ rfl rfl rfl HM.out hm9 ?_)
                  clear hm9
                  go_wp2_with (first | (at_make; refine Stop.un ?_) | (at_builtin; refine Stop.un ?_) | (with_reducible refine Stop.conv 24 9 ?_) | (with_reducible refine Stop.conv 9 24 ?_))
                  go_ret2
                  rw [H3.out]
                  exact ⟨_, _, _, HUL.out, rfl, hO9⟩
                · have H3 : Hid (unfO bs = none) := Lib.hid (by
                    rcases HREF2.out with h | h
                    · exact absurd (unfO_some h).1 hB
                    · exact h.1)
                  have hne : (!(strOf (frameB ul)).toList == (strOf bs).toList) = true := by rw [strOf_toList', strOf_toList']; simpa using hB
                  clear HREF2 hB
                  generalize frameB ul = fb at *
                  go_wp2_with (first | (at_make; refine Stop.un ?_) | (at_builtin; refine Stop.un ?_) | (with_reducible refine Stop.conv 24 9 ?_) | (with_reducible refine Stop.conv 9 24 ?_))
                  refine Stop.mk (wpList_conv Try.underlying24 Try.underlying5 Try.underlying9 _ rfl rfl rfl H9.out hc9 ?_)
                  clear hc9
                  go_wp2_with (first | (at_make; refine Stop.un ?_) | (at_builtin; refine Stop.un ?_) | (with_reducible refine Stop.conv 24 9 ?_) | (with_reducible refine Stop.conv 9 24 ?_))
                  refine Stop.mk (wpList_conv Try.underlying24 Try.underlying5 Try.underlying9 _ rfl rfl rfl HM.out hm9 ?_)
                  clear hm9
                  go_wp2_with (first | (at_make; refine Stop.un ?_) | (at_builtin; refine Stop.un ?_) | (with_reducible refine Stop.conv 24 9 ?_) | (with_reducible refine Stop.conv 9 24 ?_))
                  go_ret2
                  rw [H3.out]
                  exact ⟨none, 0, 0, rfl, rfl, Own.nil _ _ (Own.below hO9)⟩
          · have hq : (unpE r3 N W != 0) = true := by simpa using hu
            have H2 := Lib.hid (HMID.out (.inr (.inl hu)))
            clear HMID HREF HUR cs6 hu HFR
            generalize unpE r3 N W = er at hq ⊢
            go_wp2_with (first | (at_make; refine Stop.un ?_) | (at_builtin; refine Stop.un ?_) | (with_reducible refine Stop.conv 24 9 ?_) | (with_reducible refine Stop.conv 9 24 ?_))
            go_ret2
            rw [H2.out]
            exact ⟨none, 0, 0, rfl, rfl, Own.nil _ _ b6⟩
end Go.Proofs.Ytcjnehlbkjpgbaa
