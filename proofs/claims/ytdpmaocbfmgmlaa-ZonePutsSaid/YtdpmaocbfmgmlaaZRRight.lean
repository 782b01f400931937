/- Whether something may be known of a column: what the reference returns. -/
import Derived.Test.YtdpmaocbfmgmlaaZRight
import Derived.Test.YtdpmaocbfmgmlaaLess
set_option linter.unusedVariables false
set_option linter.unusedSimpArgs false
namespace Go.Proofs.Ytdpmaocbfmgmlaa
open Go.RowKit
theorem rzkind_any (k : Int) (w : World) : Calls Try.prog 44 #[.int .u8 k] w (fun e w' => e = .returned (.bool (kindB k)) ∧ w = w') := by
  have e3 : kindB k = (decide (1 ≤ k) && decide (k ≤ 3)) := by
    unfold kindB
    rw [← Bool.decide_and]
    exact decide_eq_decide.2 (by omega)
  rw [e3]
  by_cases h1 : 1 ≤ k
  · by_cases h2 : k ≤ 3
    · have e : (decide (1 ≤ k) && decide (k ≤ 3)) = true := by simp [h1, h2]
      rw [e]
      clear e e3
      go_enter Try.func44, Try.ntmps44
      go_wp2_with (first | (at_make; refine Stop.un ?_) | (at_builtin; refine Stop.un ?_) | (with_reducible refine Stop.conv 40 9 ?_) | (with_reducible refine Stop.conv 9 40 ?_))
      go_ret
      exact ⟨by simp [h1, h2], rfl⟩
    · have e : (decide (1 ≤ k) && decide (k ≤ 3)) = false := by simp [h1, h2]
      rw [e]
      clear e e3
      go_enter Try.func44, Try.ntmps44
      go_wp2_with (first | (at_make; refine Stop.un ?_) | (at_builtin; refine Stop.un ?_) | (with_reducible refine Stop.conv 40 9 ?_) | (with_reducible refine Stop.conv 9 40 ?_))
      go_ret
      exact ⟨by simp [h1, h2], rfl⟩
  · have e : (decide (1 ≤ k) && decide (k ≤ 3)) = false := by simp [h1]
    rw [e]
    clear e e3
    go_enter Try.func44, Try.ntmps44
    go_wp2_with (first | (at_make; refine Stop.un ?_) | (at_builtin; refine Stop.un ?_) | (with_reducible refine Stop.conv 40 9 ?_) | (with_reducible refine Stop.conv 9 40 ?_))
    go_ret
    exact ⟨by simp [h1], rfl⟩
set_option maxHeartbeats 1000000 in
theorem rsome_any (kd k n : Int) (s : ByteArray) (w : World) : Calls Try.prog 48 #[.int .u8 kd, .agg #[.int .u8 k, .int .i64 n, .string s]] w (fun e w' => e = .returned (.bool (ofKind kd ⟨k, n, s⟩)) ∧ Below w.heap.size w w') := by
  have HR := Lib.hid (fun w => rright_x k n s w)
  unfold ofKind
  simp only
  generalize rightB ⟨k, n, s⟩ = r at HR ⊢
  obtain ⟨q, hq⟩ : ∃ q, (r && decide (k = kd)) = q := ⟨_, rfl⟩
  rw [hq]
  have HQ := Lib.hid hq
  clear hq
  go_enter Try.func48, Try.ntmps48
  have z1 := At.new w #[.int .u8 k, .int .i64 n, .string s] 24
  have BB := (Below.refl w.heap.size w).alloc (Nat.le_refl _) (.cells #[.int .u8 k, .int .i64 n, .string s] 24)
  go_wp2_with (first | (at_make; refine Stop.un ?_) | (at_builtin; refine Stop.un ?_) | (with_reducible refine Stop.conv 40 9 ?_) | (with_reducible refine Stop.conv 9 40 ?_))
  refine (HR.out _).mono ?_
  rintro e w2 ⟨rfl, b2⟩
  replace z1 := z1.mono b2
  replace BB := BB.next b2
  have x0 := z1.cell 0 rfl
  have xl := z1.lt
  clear b2
  cases r with
  | false =>
    obtain rfl : q = false := by rw [← HQ.out]; rfl
    go_wp2_with (first | (at_make; refine Stop.un ?_) | (at_builtin; refine Stop.un ?_) | (with_reducible refine Stop.conv 40 9 ?_) | (with_reducible refine Stop.conv 9 40 ?_))
    go_ret
    exact ⟨rfl, BB⟩
  | true =>
    by_cases hk : k = kd
    · have e0 : (k == kd) = true := by simpa using hk
      obtain rfl : q = true := by rw [← HQ.out]; simp [hk]
      clear hk
      go_wp2_with (first | (at_make; refine Stop.un ?_) | (at_builtin; refine Stop.un ?_) | (with_reducible refine Stop.conv 40 9 ?_) | (with_reducible refine Stop.conv 9 40 ?_))
      go_ret
      exact ⟨rfl, BB⟩
    · have e0 : (k == kd) = false := by simpa using hk
      obtain rfl : q = false := by rw [← HQ.out]; simp [hk]
      clear hk
      go_wp2_with (first | (at_make; refine Stop.un ?_) | (at_builtin; refine Stop.un ?_) | (with_reducible refine Stop.conv 40 9 ?_) | (with_reducible refine Stop.conv 9 40 ?_))
      go_ret
      exact ⟨rfl, BB⟩
set_option maxRecDepth 100000 in
set_option maxHeartbeats 16000000 in
theorem rzright_any (kd : Int) (z : Zn) (w : World) (hin : InR z.many ∧ InR z.nulls) : Calls Try.prog 27 #[.int .u8 kd, z.val] w (fun e w' => e = .returned (.bool (rightZ kd z)) ∧ Below w.heap.size w w') := by
  have HK := Lib.hid (fun w => rzkind_any kd w)
  obtain ⟨⟨k, n, s⟩, ⟨k', n', s'⟩, nu, ma⟩ := z
  have HL := Lib.hid (fun w => rsome_any kd k n s w)
  have HH := Lib.hid (fun w => rsome_any kd k' n' s' w)
  have HC := Lib.hid (fun w => rcompare_x k n s k' n' s' w)
  have hce : cmpV ⟨k, n, s⟩ ⟨k', n', s'⟩ = 0 ↔ eqV ⟨k, n, s⟩ ⟨k', n', s'⟩ = true := by rw [cmpV_zero, eqV_iff]
  generalize hR : rightZ kd ⟨⟨k, n, s⟩, ⟨k', n', s'⟩, nu, ma⟩ = R
  unfold rightZ countB at hR
  simp only at hR
  obtain ⟨⟨hma0, hma1⟩, ⟨hnu0, hnu1⟩⟩ := hin
  simp only at hma0 hma1 hnu0 hnu1
  generalize kindB kd = kb at HK hR
  generalize ofKind kd ⟨k, n, s⟩ = rl at HL hR
  generalize ofKind kd ⟨k', n', s'⟩ = rh at HH hR
  generalize cmpV ⟨k, n, s⟩ ⟨k', n', s'⟩ = c at HC hR hce
  generalize hq3 : eqV ⟨k, n, s⟩ ⟨k', n', s'⟩ = q3 at hce
  generalize hq1 : eqV ⟨k, n, s⟩ V.zero = q1 at hR
  generalize hq2 : eqV ⟨k', n', s'⟩ V.zero = q2 at hR
  have HR := Lib.hid hR
  have HQ1 := Lib.hid hq1
  have HQ2 := Lib.hid hq2
  have HQ3 := Lib.hid hq3
  have HCE := Lib.hid hce
  clear hR hq1 hq2 hq3 hce
  simp only [Zn.val]
  go_enter Try.func27, Try.ntmps27
  go_upto_region 1 with fail
  have z1 : At (w.alloc (.cells #[.int .u8 k, .int .i64 n, .string s, .int .u8 k', .int .i64 n', .string s', .int .i64 nu, .int .i64 ma] 26)) (w.heap.size) #[.int .u8 k, .int .i64 n, .string s, .int .u8 k', .int .i64 n', .string s', .int .i64 nu, .int .i64 ma] 26 := by simpa only [World.size_alloc, Nat.add_assoc, Nat.reduceAdd] using At.new w #[.int .u8 k, .int .i64 n, .string s, .int .u8 k', .int .i64 n', .string s', .int .i64 nu, .int .i64 ma] 26
  have BB : Below w.heap.size w (w.alloc (.cells #[.int .u8 k, .int .i64 n, .string s, .int .u8 k', .int .i64 n', .string s', .int .i64 nu, .int .i64 ma] 26)) := Below.alloc (Below.refl w.heap.size w) (by (try simp only [World.size_alloc]) <;> omega) (.cells #[.int .u8 k, .int .i64 n, .string s, .int .u8 k', .int .i64 n', .string s', .int .i64 nu, .int .i64 ma] 26)
  generalize w.alloc (.cells #[.int .u8 k, .int .i64 n, .string s, .int .u8 k', .int .i64 n', .string s', .int .i64 nu, .int .i64 ma] 26) = wx at z1 BB ⊢
  have x0 := z1.cell 0 rfl
  have x1 := z1.cell 1 rfl
  have x2 := z1.cell 2 rfl
  have x3 := z1.cell 3 rfl
  have x4 := z1.cell 4 rfl
  have x5 := z1.cell 5 rfl
  have x6 := z1.cell 6 rfl
  have x7 := z1.cell 7 rfl
  have xl := z1.lt
  go_wp2_with (first | (at_make; refine Stop.un ?_) | (at_builtin; refine Stop.un ?_) | (with_reducible refine Stop.conv 40 9 ?_) | (with_reducible refine Stop.conv 9 40 ?_))
  refine (HK.out _).mono ?_
  rintro e w1 ⟨rfl, rfl⟩
  cases kb with
  | false =>
    have hr : R = false := by rw [← HR.out]; rfl
    subst hr
    go_wp2_with (first | (at_make; refine Stop.un ?_) | (at_builtin; refine Stop.un ?_) | (with_reducible refine Stop.conv 40 9 ?_) | (with_reducible refine Stop.conv 9 40 ?_))
    go_ret
    exact ⟨rfl, BB⟩
  | true =>
    by_cases h1 : ma < 0
    ·
      have hr : R = false := by rw [← HR.out]; simp only [Bool.and_eq_false_iff, decide_eq_false_iff_not]; exact .inl (.inr (by omega))
      subst hr
      go_wp2_with (first | (at_make; refine Stop.un ?_) | (at_builtin; refine Stop.un ?_) | (with_reducible refine Stop.conv 40 9 ?_) | (with_reducible refine Stop.conv 9 40 ?_))
      go_ret
      exact ⟨rfl, BB⟩
    ·
      by_cases h2 : 4096 < ma
      ·
        have hr : R = false := by rw [← HR.out]; simp only [Bool.and_eq_false_iff, decide_eq_false_iff_not]; exact .inl (.inr (by omega))
        subst hr
        go_wp2_with (first | (at_make; refine Stop.un ?_) | (at_builtin; refine Stop.un ?_) | (with_reducible refine Stop.conv 40 9 ?_) | (with_reducible refine Stop.conv 9 40 ?_))
        go_ret
        exact ⟨rfl, BB⟩
      ·
        by_cases h3 : nu < 0
        ·
          have hr : R = false := by rw [← HR.out]; simp only [Bool.and_eq_false_iff, decide_eq_false_iff_not]; exact .inl (.inr (by omega))
          subst hr
          go_wp2_with (first | (at_make; refine Stop.un ?_) | (at_builtin; refine Stop.un ?_) | (with_reducible refine Stop.conv 40 9 ?_) | (with_reducible refine Stop.conv 9 40 ?_))
          go_ret
          exact ⟨rfl, BB⟩
        ·
          by_cases h4 : ma < nu
          ·
            have hr : R = false := by rw [← HR.out]; simp only [Bool.and_eq_false_iff, decide_eq_false_iff_not]; exact .inl (.inr (by omega))
            subst hr
            go_wp2_with (first | (at_make; refine Stop.un ?_) | (at_builtin; refine Stop.un ?_) | (with_reducible refine Stop.conv 40 9 ?_) | (with_reducible refine Stop.conv 9 40 ?_))
            go_ret
            exact ⟨rfl, BB⟩
          ·
            have hcb : decide (0 ≤ ma ∧ ma ≤ 4096 ∧ 0 ≤ nu ∧ nu ≤ ma) = true := decide_eq_true (by omega)
            have hr0 := HR.out
            rw [hcb] at hr0
            simp only [Bool.true_and] at hr0
            have HR2 := Lib.hid hr0
            clear hr0 hcb HR HK
            go_upto_region 4 with fail
            have z5 := At.new wx #[.int .u8 0, .int .i64 0, .string ⟨#[]⟩] 24
            have bz := (Below.refl wx.heap.size wx).alloc (Nat.le_refl _) (.cells #[.int .u8 0, .int .i64 0, .string ⟨#[]⟩] 24)
            clear xl x0 x1 x2 x3 x4 x5 x6 x7
            replace z1 := At.mono z1 bz
            replace BB := Below.next BB bz
            clear bz
            generalize wx.alloc (.cells #[.int .u8 0, .int .i64 0, .string ⟨#[]⟩] 24) = wy at z1 z5 BB ⊢
            generalize wx.heap.size = h5 at z5 ⊢
            have x0 := z1.cell 0 rfl
            have x1 := z1.cell 1 rfl
            have x2 := z1.cell 2 rfl
            have x3 := z1.cell 3 rfl
            have x4 := z1.cell 4 rfl
            have x5 := z1.cell 5 rfl
            have x6 := z1.cell 6 rfl
            have x7 := z1.cell 7 rfl
            have xl := z1.lt
            by_cases h5 : ma - nu = 0
            ·
              have hr0 := HR2.out
              rw [if_pos h5] at hr0
              have HR3 := Lib.hid hr0
              have hb5 : (nu == ma) = true := by simp; omega
              clear hr0 HR2 h5
              have y0 := z5.cell 0 rfl
              have y1 := z5.cell 1 rfl
              have y2 := z5.cell 2 rfl
              have yl := z5.lt
              go_wp2_with (first | (at_make; refine Stop.un ?_) | (at_builtin; refine Stop.un ?_) | (with_reducible refine Stop.conv 40 9 ?_) | (with_reducible refine Stop.conv 9 40 ?_) | (with_reducible refine Stop.eql 24 ?_) | (with_reducible refine Stop.neq 24 ?_))
              refine Stop.mk (wpList_as _ rfl (exec_eqV ⟨_, _, _⟩ V.zero rfl rfl _) ?_)
              rw [HQ1.out]
              cases q1 with
              | false =>
                have hr : R = false := by rw [← HR3.out]; rfl
                subst hr
                go_wp2_with (first | (at_make; refine Stop.un ?_) | (at_builtin; refine Stop.un ?_) | (with_reducible refine Stop.conv 40 9 ?_) | (with_reducible refine Stop.conv 9 40 ?_) | (with_reducible refine Stop.eql 24 ?_) | (with_reducible refine Stop.neq 24 ?_))
                go_ret
                exact ⟨rfl, BB⟩
              | true =>
                go_wp2_with (first | (at_make; refine Stop.un ?_) | (at_builtin; refine Stop.un ?_) | (with_reducible refine Stop.conv 40 9 ?_) | (with_reducible refine Stop.conv 9 40 ?_) | (with_reducible refine Stop.eql 24 ?_) | (with_reducible refine Stop.neq 24 ?_))
                refine Stop.mk (wpList_as _ rfl (exec_eqV ⟨_, _, _⟩ V.zero rfl rfl _) ?_)
                rw [HQ2.out]
                have hr : R = q2 := by rw [← HR3.out]; simp
                subst hr
                go_wp2_with (first | (at_make; refine Stop.un ?_) | (at_builtin; refine Stop.un ?_) | (with_reducible refine Stop.conv 40 9 ?_) | (with_reducible refine Stop.conv 9 40 ?_) | (with_reducible refine Stop.eql 24 ?_) | (with_reducible refine Stop.neq 24 ?_))
                go_ret
                exact ⟨rfl, BB⟩
            ·
              have hr0 := HR2.out
              rw [if_neg h5] at hr0
              have HR3 := Lib.hid hr0
              have hb5 : (nu == ma) = false := by simp; omega
              clear hr0 HR2
              clear z5
              go_wp2_with (first | (at_make; refine Stop.un ?_) | (at_builtin; refine Stop.un ?_) | (with_reducible refine Stop.conv 40 9 ?_) | (with_reducible refine Stop.conv 9 40 ?_))
              refine (HL.out _).mono ?_
              rintro e w2 ⟨rfl, bt⟩
              clear xl x0 x1 x2 x3 x4 x5 x6 x7
              replace z1 := At.mono z1 bt
              replace BB := Below.next BB bt
              clear bt
              have x0 := z1.cell 0 rfl
              have x1 := z1.cell 1 rfl
              have x2 := z1.cell 2 rfl
              have x3 := z1.cell 3 rfl
              have x4 := z1.cell 4 rfl
              have x5 := z1.cell 5 rfl
              have x6 := z1.cell 6 rfl
              have x7 := z1.cell 7 rfl
              have xl := z1.lt
              cases rl with
              | false =>
                have hr : R = false := by rw [← HR3.out]; simp
                subst hr
                go_wp2_with (first | (at_make; refine Stop.un ?_) | (at_builtin; refine Stop.un ?_) | (with_reducible refine Stop.conv 40 9 ?_) | (with_reducible refine Stop.conv 9 40 ?_))
                go_ret
                exact ⟨rfl, BB⟩
              | true =>
                go_wp2_with (first | (at_make; refine Stop.un ?_) | (at_builtin; refine Stop.un ?_) | (with_reducible refine Stop.conv 40 9 ?_) | (with_reducible refine Stop.conv 9 40 ?_))
                refine (HH.out _).mono ?_
                rintro e w3 ⟨rfl, bt⟩
                clear xl x0 x1 x2 x3 x4 x5 x6 x7
                replace z1 := At.mono z1 bt
                replace BB := Below.next BB bt
                clear bt
                have x0 := z1.cell 0 rfl
                have x1 := z1.cell 1 rfl
                have x2 := z1.cell 2 rfl
                have x3 := z1.cell 3 rfl
                have x4 := z1.cell 4 rfl
                have x5 := z1.cell 5 rfl
                have x6 := z1.cell 6 rfl
                have x7 := z1.cell 7 rfl
                have xl := z1.lt
                cases rh with
                | false =>
                  have hr : R = false := by rw [← HR3.out]; simp
                  subst hr
                  go_wp2_with (first | (at_make; refine Stop.un ?_) | (at_builtin; refine Stop.un ?_) | (with_reducible refine Stop.conv 40 9 ?_) | (with_reducible refine Stop.conv 9 40 ?_))
                  go_ret
                  exact ⟨rfl, BB⟩
                | true =>
                  go_wp2_with (first | (at_make; refine Stop.un ?_) | (at_builtin; refine Stop.un ?_) | (with_reducible refine Stop.conv 40 9 ?_) | (with_reducible refine Stop.conv 9 40 ?_))
                  refine (HC.out _).mono ?_
                  rintro e w4 ⟨rfl, bt⟩
                  clear xl x0 x1 x2 x3 x4 x5 x6 x7
                  replace z1 := At.mono z1 bt
                  replace BB := Below.next BB bt
                  clear bt
                  have x0 := z1.cell 0 rfl
                  have x1 := z1.cell 1 rfl
                  have x2 := z1.cell 2 rfl
                  have x3 := z1.cell 3 rfl
                  have x4 := z1.cell 4 rfl
                  have x5 := z1.cell 5 rfl
                  have x6 := z1.cell 6 rfl
                  have x7 := z1.cell 7 rfl
                  have xl := z1.lt
                  have hr1 := HR3.out
                  simp only [Bool.true_and] at hr1
                  by_cases hc0 : 0 < c
                  ·
                    have hr : R = false := by rw [← hr1]; exact decide_eq_false (by omega)
                    subst hr
                    go_wp2_with (first | (at_make; refine Stop.un ?_) | (at_builtin; refine Stop.un ?_) | (with_reducible refine Stop.conv 40 9 ?_) | (with_reducible refine Stop.conv 9 40 ?_))
                    go_ret
                    exact ⟨rfl, BB⟩
                  ·
                    by_cases hc1 : nu + 1 < ma
                    ·
                      have hr : R = true := by rw [← hr1]; exact decide_eq_true (by omega)
                      subst hr
                      go_wp2_with (first | (at_make; refine Stop.un ?_) | (at_builtin; refine Stop.un ?_) | (with_reducible refine Stop.conv 40 9 ?_) | (with_reducible refine Stop.conv 9 40 ?_))
                      go_ret
                      exact ⟨rfl, BB⟩
                    ·
                      have hr : R = q3 := by
                        rw [← hr1]
                        have hce := HCE.out
                        by_cases hc2 : c = 0
                        · rw [hce.1 hc2]; exact decide_eq_true (.inl hc2)
                        · have : q3 = false := by cases q3 with
                            | false => rfl
                            | true => exact absurd (hce.2 rfl) hc2
                          rw [this]; exact decide_eq_false (by omega)
                      subst hr
                      have hb1 : decide (nu + 1 < ma) = false := decide_eq_false hc1
                      clear hr1 HR3 HCE
                      go_wp2_with (first | (at_make; refine Stop.un ?_) | (at_builtin; refine Stop.un ?_) | (with_reducible refine Stop.conv 40 9 ?_) | (with_reducible refine Stop.conv 9 40 ?_) | (with_reducible refine Stop.eql 24 ?_) | (with_reducible refine Stop.neq 24 ?_))
                      refine Stop.mk (wpList_as _ rfl (exec_eqV ⟨_, _, _⟩ ⟨_, _, _⟩ rfl rfl _) ?_)
                      rw [HQ3.out]
                      go_wp2_with (first | (at_make; refine Stop.un ?_) | (at_builtin; refine Stop.un ?_) | (with_reducible refine Stop.conv 40 9 ?_) | (with_reducible refine Stop.conv 9 40 ?_))
                      go_ret
                      exact ⟨rfl, BB⟩
end Go.Proofs.Ytdpmaocbfmgmlaa
