/- What the reference's Take returns. -/
import Derived.Test.YtmnpneehlnmfmaaDTake
set_option linter.unusedVariables false
namespace Go.Proofs.Ytmnpneehlnmfmaa
open Go.RowKit
theorem owns_max {w : World} {base e size n n' : Nat} {ao : Option Addr} {cap : Nat} {xs : List Value} (h : w.ownsRow base e size (.slice ao n' cap) n xs) : cap ≤ maxLen := by
  rcases h.2 with ⟨h', h0⟩ | ⟨g, cap', cur, h', _, _, hn, hm, _⟩
  · simp only [Value.slice.injEq] at h'; omega
  · simp only [Value.slice.injEq] at h'; omega
theorem rkGo_step (k : Nat) (r : List UInt8) (last : Int) (out : List Int) : rkGo (k + 1) r false last out = rkGo k (rdRest r) (false || rdBad r) (wrap64 (last + zag (rdN r))) (out ++ [wrap64 (last + zag (rdN r))]) := rfl
theorem rkGo_bad (k : Nat) (r : List UInt8) (last : Int) (out : List Int) : rkGo k r true last out = (out, r, true) := by cases k <;> rfl

set_option maxHeartbeats 2000000 in
set_option maxRecDepth 100000 in
theorem rtake_any (ao : Option Addr) (m cap : Nat) (bs : List UInt8) (w : World) (hc : Cs w ao (bcells bs)) (hm : bs.length = m) (hl : m ≤ 140737488355328) :
    Calls Try.prog 18 #[.slice ao m cap] w (RetK w (takeO bs)) := by
  have HM := Lib.hid hm; clear hm
  have HRef : Hid (takeO bs = refO bs) := Lib.hid (refO_eq bs).symm
  by_cases h4 : rdN bs ≤ 4096
  · have hT : refO bs = rkEnd bs (rkGo (rdN bs) (rdRest bs) (rdBad bs) 0 []) := by unfold refO; rw [if_pos h4]
    have HT := Lib.hid hT
    clear hT
    go_enter Try.func18, Try.ntmps18
    go_wp2_with (first | (at_make; refine Stop.un ?_) | (at_builtin; refine Stop.un ?_) | (with_reducible refine Stop.conv 28 9 ?_) | (with_reducible refine Stop.conv 9 28 ?_))
    have hO : OwnB w (w.alloc (.cells #[] 5)) (.slice (some ⟨w.heap.size, 0, none⟩) 0 0) 0 [] := Own.block (Below.refl _ _) rfl (by decide)
    refine Stop.mk (app_bs w _ _ rfl rfl hO rfl rfl HM.out (hc.alloc _) (by omega) ?_)
    intro ao4 cap4 w4 hO4
    simp only [Nat.zero_add, List.nil_append] at hO4
    clear hO
    have b4 := Own.below hO4
    have hw4 : w.heap.size ≤ w4.heap.size := Own.le hO4
    have hr2 : Rdr 51 w.heap.size (w4.heap.size + 1) (w4.alloc (.cells #[.slice ao4 m cap4, .bool false] 51)) w4.heap.size bs false := by
      have hlt := Own.lt hO4
      have hge := Own.ge hO4
      refine ⟨ao4, m, cap4, _root_.Go.heap_alloc_new w4 _, HM.out, owns_le hO4.1, by omega, (Own.cs hO4).alloc _, ⟨hw4, by omega⟩, ?_⟩
      intro a ha
      have h1 := hlt a.block (by subst ha; rfl)
      have h2 := hge a.block (by subst ha; rfl)
      exact ⟨by omega, h2, by omega⟩
    have b5 := b4.alloc b4.size (.cells #[.slice ao4 m cap4, .bool false] 51)
    clear hO4 b4
    go_wp2_with (first | (at_make; refine Stop.un ?_) | (at_builtin; refine Stop.un ?_) | (with_reducible refine Stop.conv 28 9 ?_) | (with_reducible refine Stop.conv 9 28 ?_))
    have hsz : w4.heap.size + 1 ≤ (w4.alloc (.cells #[.slice ao4 m cap4, .bool false] 51)).heap.size := by simp
    generalize hW5 : w4.alloc (.cells #[.slice ao4 m cap4, .bool false] 51) = w5 at hr2 b5 hsz
    clear hW5
    generalize w4.heap.size = g at hr2 hw4 hsz
    refine (rrnum_any _ _ _ g _ _ _ hr2).mono ?_
    rintro e w6 ⟨rfl, hr3, hg3⟩
    have b6 := b5.one hg3 hw4 (Nat.le_refl _)
    have hT6 : g + 1 ≤ w6.heap.size := Nat.le_trans hsz hg3.size
    rw [Bool.false_or] at hr3
    generalize rdN bs = N at h4 HT
    clear hr2 hg3 b5 hsz
    go_wp2_with (first | (at_make; refine Stop.un ?_) | (at_builtin; refine Stop.un ?_) | (with_reducible refine Stop.conv 28 9 ?_) | (with_reducible refine Stop.conv 9 28 ?_))
    go_loopw [5, 6, 7] (fun c v x wr => ∃ (q j : Nat) (ab : Option Addr) (cb : Nat) (r : List UInt8) (bad : Bool) (last : Int) (out : List Int), j + q ≤ N ∧ InR last ∧ (∀ n ∈ out, InR n) ∧ c = .int .u64 (q : Int) ∧ x = .int .i64 last ∧ v = .slice ab j cb ∧ OwnI w wr (.slice ab j cb) j out ∧ (∀ k, (Value.slice ab j cb).ownBlock = some k → g + 1 ≤ k) ∧ Rdr 51 w.heap.size (g + 1) wr g r bad ∧ g + 1 ≤ wr.heap.size ∧ Hid (refO bs = rkEnd bs (rkGo q r bad last out))) (fun c _ _ _ => (intOf c).toNat)
    case atStart => exact ⟨N, 0, none, 0, _, _, 0, [], by omega, by unfold InR; omega, by simp, rfl, rfl, rfl, Own.nil _ _ b6, (fun k hk => by cases hk), hr3, hT6, HT⟩
    case round =>
      clear hr3 hT6 b6 HT
      obtain ⟨q, j, ab, cb, r, bad, last, out, hj, hl0, hin, rfl, rfl, rfl, hO, hk, hr, hTw, HT⟩ := hrel
      have h1 : wr.cell? ⟨g, 1, none⟩ = some (.bool bad) := by
        obtain ⟨_, _, _, hh, _⟩ := hr
        simpa using cell_of hh 1
      have HIN := Lib.hid hin
      have HK := Lib.hid hk
      clear hin hk
      by_cases hgo : 0 < q ∧ bad = false
      · obtain ⟨hq, rfl⟩ := hgo
        obtain ⟨p, rfl⟩ : ∃ p, q = p + 1 := ⟨q - 1, by omega⟩
        have hT := HT.out
        rw [rkGo_step] at hT
        have HT2 := Lib.hid hT
        clear hT HT
        go_wp2_with (first | (at_make; refine Stop.un ?_) | (at_builtin; refine Stop.un ?_) | (with_reducible refine Stop.conv 28 9 ?_) | (with_reducible refine Stop.conv 9 28 ?_))
        refine (rrint_any _ _ _ g _ _ _ hr).mono ?_
        rintro e w3 ⟨rfl, hr3, hg3⟩
        have hO3 := Own.past hO hg3 hw4 (fun e => by have := HK.out _ e; omega)
        have hT3 : g + 1 ≤ w3.heap.size := Nat.le_trans hTw hg3.size
        have hs := zag_in (rdN_lt r)
        generalize zag (rdN r) = s at hs HT2
        obtain ⟨hs0, hs1⟩ := hs
        obtain ⟨hl0, hl1⟩ := hl0
        clear hO hr hg3 hTw h1
        have hw0 := wrap64_in (last + s)
        have HW := Lib.hid hw0
        clear hw0
        go_wp2_with (first | (at_make; refine Stop.un ?_) | (at_builtin; refine Stop.un ?_) | (with_reducible refine Stop.conv 28 9 ?_) | (with_reducible refine Stop.conv 9 28 ?_))
        refine Stop.mk (app_i1 w _ _ rfl rfl hO3 rfl rfl (by omega) ?_)
        intro a4 c4 w7 hO4 hg4 hk4
        have hr4 := hr3.row hg4 (fun k e => .inr (HK.out k e))
        have hT4 : g + 1 ≤ w7.heap.size := Nat.le_trans hT3 hg4.size
        have HK4 : Hid (∀ k, (Value.slice a4 (j + 1) c4).ownBlock = some k → g + 1 ≤ k) := Lib.hid (fun k e => (hk4 k e).elim (fun e1 => HK.out k e1) (fun h => Nat.le_trans hT3 h))
        have HIN4 : Hid (∀ n ∈ out ++ [wrap64 (last + s)], InR n) := Lib.hid (fun n hn => (List.mem_append.1 hn).elim (HIN.out n) (fun h => by rw [List.mem_singleton.1 h]; exact HW.out))
        clear hO3 hr3 hT3 hg4 hk4
        go_wp2_with (first | (at_make; refine Stop.un ?_) | (at_builtin; refine Stop.un ?_) | (with_reducible refine Stop.conv 28 9 ?_) | (with_reducible refine Stop.conv 9 28 ?_))
        go_roundw
        case rel => exact ⟨p, j + 1, a4, c4, _, _, _, _, by omega, HW.out, HIN4.out, by go_num, rfl, rfl, hO4, HK4.out, hr4, hT4, HT2⟩
        case measure => simp [intOf] <;> omega
      · have hT : refO bs = rkEnd bs (out, r, bad) := by
          rw [HT.out]
          congr 1
          cases bad with
          | true => exact rkGo_bad _ _ _ _
          | false => have : q = 0 := by simp at hgo; omega
                     subst this; rfl
        have HT2 := Lib.hid hT
        have hO2 := OwnI.length hO
        have HOL := Lib.hid hO2
        clear hT HT hO2 hTw
        have hx : q = 0 ∨ (0 < q ∧ bad = true) := by
          cases bad with
          | true => rcases Nat.eq_zero_or_pos q with h | h
                    · exact .inl h
                    · exact .inr ⟨h, rfl⟩
          | false => simp at hgo; omega
        have hcap : cb ≤ maxLen := owns_max hO.1
        have HCap := Lib.hid hcap
        clear hgo hl0 HK hcap hj
        have hm := hc.mono (Own.below hO) (Nat.le_refl _)
        rcases hx with rfl | ⟨hq, rfl⟩
        all_goals
          go_wp2_with (first | (at_make; refine Stop.un ?_) | (at_builtin; refine Stop.un ?_) | (with_reducible refine Stop.conv 28 9 ?_) | (with_reducible refine Stop.conv 9 28 ?_))
          refine (rrend_any _ _ _ g _ _ _ hr).mono ?_
          rintro e w3 ⟨rfl, rfl⟩
          clear hr h1
        · by_cases hE : endE r bad = 0
          · rw [hE]
            have h2 : refO bs = if putC out = 0 ∧ putR out = bs then some out else none := by
              rw [HT2.out, rkEnd]
              simp only [hE, true_and]
            have H2 := Lib.hid h2
            clear h2 hE HT2
            go_wp2_with (first | (at_make; refine Stop.un ?_) | (at_builtin; refine Stop.un ?_) | (with_reducible refine Stop.conv 28 9 ?_) | (with_reducible refine Stop.conv 9 28 ?_))
            refine (rput_any ab j cb out _ (Own.cs hO) HOL.out (owns_le hO.1) HCap.out HIN.out).mono ?_
            rintro e w7 ⟨a5, n5, c5, h5, rfl, o5⟩
            have H5 := Lib.hid h5
            have hO7 := Own.keep hO (Own.below o5)
            have hm7 := hm.mono (Own.below o5) (Nat.le_refl _)
            have hc5 := Own.cs o5
            clear h5 hO hm o5
            rcases putC_range out with h0 | h3 | h8
            · rw [h0]
              have H0 := Lib.hid h0
              clear h0
              by_cases hB : putR out = bs
              · rw [hB] at hc5
                have H3 : Hid (refO bs = some out) := Lib.hid (by rw [H2.out, if_pos ⟨H0.out, hB⟩])
                have H6 : Hid (bs.length = n5) := Lib.hid (by rw [← H5.out, hB])
                clear H2 hB H5
                go_wp2_with (first | (at_make; refine Stop.un ?_) | (at_builtin; refine Stop.un ?_) | (with_reducible refine Stop.conv 28 9 ?_) | (with_reducible refine Stop.conv 9 28 ?_))
                refine Stop.mk (wpList_conv Try.underlying28 Try.underlying5 Try.underlying9 _ rfl rfl rfl H6.out hc5 ?_)
                clear hc5
                go_wp2_with (first | (at_make; refine Stop.un ?_) | (at_builtin; refine Stop.un ?_) | (with_reducible refine Stop.conv 28 9 ?_) | (with_reducible refine Stop.conv 9 28 ?_))
                refine Stop.mk (wpList_conv Try.underlying28 Try.underlying5 Try.underlying9 _ rfl rfl rfl HM.out hm7 ?_)
                clear hm7
                go_wp2_with (first | (at_make; refine Stop.un ?_) | (at_builtin; refine Stop.un ?_) | (with_reducible refine Stop.conv 28 9 ?_) | (with_reducible refine Stop.conv 9 28 ?_))
                go_ret2
                rw [HRef.out, H3.out]
                exact ⟨_, _, _, HOL.out, rfl, hO7⟩
              · have H3 : Hid (refO bs = none) := Lib.hid (by rw [H2.out, if_neg (fun h => hB h.2)])
                have hne : (!(strOf (putR out)).toList == (strOf bs).toList) = true := by rw [strOf_toList', strOf_toList']; simpa using hB
                clear H2 hB
                go_wp2_with (first | (at_make; refine Stop.un ?_) | (at_builtin; refine Stop.un ?_) | (with_reducible refine Stop.conv 28 9 ?_) | (with_reducible refine Stop.conv 9 28 ?_))
                refine Stop.mk (wpList_conv Try.underlying28 Try.underlying5 Try.underlying9 _ rfl rfl rfl H5.out hc5 ?_)
                clear hc5
                go_wp2_with (first | (at_make; refine Stop.un ?_) | (at_builtin; refine Stop.un ?_) | (with_reducible refine Stop.conv 28 9 ?_) | (with_reducible refine Stop.conv 9 28 ?_))
                refine Stop.mk (wpList_conv Try.underlying28 Try.underlying5 Try.underlying9 _ rfl rfl rfl HM.out hm7 ?_)
                clear hm7
                go_wp2_with (first | (at_make; refine Stop.un ?_) | (at_builtin; refine Stop.un ?_) | (with_reducible refine Stop.conv 28 9 ?_) | (with_reducible refine Stop.conv 9 28 ?_))
                go_ret2
                rw [HRef.out, H3.out]
                exact ⟨none, 0, 0, rfl, rfl, Own.nil _ _ (Own.below hO7)⟩
            · have hk := h3
              clear h3
              have H3 : Hid (refO bs = none) := Lib.hid (by rw [H2.out, if_neg (fun h => by rw [hk] at h; omega)])
              rw [hk]
              clear hk H2 hc5 hm7
              go_wp2_with (first | (at_make; refine Stop.un ?_) | (at_builtin; refine Stop.un ?_) | (with_reducible refine Stop.conv 28 9 ?_) | (with_reducible refine Stop.conv 9 28 ?_))
              go_ret2
              rw [HRef.out, H3.out]
              exact ⟨none, 0, 0, rfl, rfl, Own.nil _ _ (Own.below hO7)⟩
            · have hk := h8
              clear h8
              have H3 : Hid (refO bs = none) := Lib.hid (by rw [H2.out, if_neg (fun h => by rw [hk] at h; omega)])
              rw [hk]
              clear hk H2 hc5 hm7
              go_wp2_with (first | (at_make; refine Stop.un ?_) | (at_builtin; refine Stop.un ?_) | (with_reducible refine Stop.conv 28 9 ?_) | (with_reducible refine Stop.conv 9 28 ?_))
              go_ret2
              rw [HRef.out, H3.out]
              exact ⟨none, 0, 0, rfl, rfl, Own.nil _ _ (Own.below hO7)⟩
          · have h6 : endE r bad = 6 := by unfold endE at *; split <;> simp_all
            have H3 : Hid (refO bs = none) := Lib.hid (by rw [HT2.out, rkEnd, if_neg (fun h => hE h.1)])
            rw [h6]
            clear hE h6 HT2 hm
            go_wp2_with (first | (at_make; refine Stop.un ?_) | (at_builtin; refine Stop.un ?_) | (with_reducible refine Stop.conv 28 9 ?_) | (with_reducible refine Stop.conv 9 28 ?_))
            go_ret2
            rw [HRef.out, H3.out]
            exact ⟨none, 0, 0, rfl, rfl, Own.nil _ _ (Own.below hO)⟩
        · have h6 : endE r true = 6 := rfl
          have H3 : Hid (refO bs = none) := Lib.hid (by rw [HT2.out, rkEnd, if_neg (fun h => by rw [h6] at h; omega)])
          rw [h6]
          clear h6 HT2 hm
          go_wp2_with (first | (at_make; refine Stop.un ?_) | (at_builtin; refine Stop.un ?_) | (with_reducible refine Stop.conv 28 9 ?_) | (with_reducible refine Stop.conv 9 28 ?_))
          go_ret2
          rw [HRef.out, H3.out]
          exact ⟨none, 0, 0, rfl, rfl, Own.nil _ _ (Own.below hO)⟩
  · have hT : refO bs = none := by unfold refO; rw [if_neg h4]
    rw [HRef.out, hT]; clear hT HRef
    go_enter Try.func18, Try.ntmps18
    go_wp2_with (first | (at_make; refine Stop.un ?_) | (at_builtin; refine Stop.un ?_) | (with_reducible refine Stop.conv 28 9 ?_) | (with_reducible refine Stop.conv 9 28 ?_))
    have hO : OwnB w (w.alloc (.cells #[] 5)) (.slice (some ⟨w.heap.size, 0, none⟩) 0 0) 0 [] := Own.block (Below.refl _ _) rfl (by decide)
    refine Stop.mk (app_bs w _ _ rfl rfl hO rfl rfl HM.out (hc.alloc _) (by omega) ?_)
    intro ao4 cap4 w4 hO4
    simp only [Nat.zero_add, List.nil_append] at hO4
    clear hO
    have b4 := Own.below hO4
    have hw4 : w.heap.size ≤ w4.heap.size := Own.le hO4
    have hr2 : Rdr 51 w.heap.size (w4.heap.size + 1) (w4.alloc (.cells #[.slice ao4 m cap4, .bool false] 51)) w4.heap.size bs false := by
      have hlt := Own.lt hO4
      have hge := Own.ge hO4
      refine ⟨ao4, m, cap4, _root_.Go.heap_alloc_new w4 _, HM.out, owns_le hO4.1, by omega, (Own.cs hO4).alloc _, ⟨hw4, by omega⟩, ?_⟩
      intro a ha
      have h1 := hlt a.block (by subst ha; rfl)
      have h2 := hge a.block (by subst ha; rfl)
      exact ⟨by omega, h2, by omega⟩
    have b5 := b4.alloc b4.size (.cells #[.slice ao4 m cap4, .bool false] 51)
    clear hO4 b4
    go_wp2_with (first | (at_make; refine Stop.un ?_) | (at_builtin; refine Stop.un ?_) | (with_reducible refine Stop.conv 28 9 ?_) | (with_reducible refine Stop.conv 9 28 ?_))
    have hsz : w4.heap.size + 1 ≤ (w4.alloc (.cells #[.slice ao4 m cap4, .bool false] 51)).heap.size := by simp
    generalize hW5 : w4.alloc (.cells #[.slice ao4 m cap4, .bool false] 51) = w5 at hr2 b5 hsz
    clear hW5
    generalize w4.heap.size = g at hr2 hw4 hsz
    refine (rrnum_any _ _ _ g _ _ _ hr2).mono ?_
    rintro e w6 ⟨rfl, hr3, hg3⟩
    have b6 := b5.one hg3 hw4 (Nat.le_refl _)
    have hT6 : g + 1 ≤ w6.heap.size := Nat.le_trans hsz hg3.size
    have hN := rdN_lt bs
    generalize rdN bs = N at h4 hN
    clear hr2 hg3 b5 hsz hr3
    go_wp2_with (first | (at_make; refine Stop.un ?_) | (at_builtin; refine Stop.un ?_) | (with_reducible refine Stop.conv 28 9 ?_) | (with_reducible refine Stop.conv 9 28 ?_))
    go_ret2
    exact ⟨none, 0, 0, rfl, rfl, Own.nil _ _ b6⟩
end Go.Proofs.Ytmnpneehlnmfmaa
