/- Whether something may be known of a column: what the program returns. -/
import Derived.Test.YtdpmaocbfmgmlaaZBackP
import Derived.Test.YtdpmaocbfmgmlaaZOne
import Derived.Deep.DeepCutAuto
import Derived.Deep.CutBlock
set_option linter.unusedVariables false
set_option linter.unusedSimpArgs false
namespace Go.Proofs.Ytdpmaocbfmgmlaa
open Go.RowKit
theorem zkind_any (k : Int) (w : World) : Calls Try.prog 39 #[.int .u8 k] w (fun e w' => e = .returned (.bool (kindB k)) ∧ w = w') := by
  by_cases h1 : k = 1
  · subst h1
    go_enter Try.func39, Try.ntmps39
    go_wp2_with (first | (at_make; refine Stop.un ?_) | (at_builtin; refine Stop.un ?_) | (with_reducible refine Stop.conv 40 9 ?_) | (with_reducible refine Stop.conv 9 40 ?_))
    go_ret
    exact ⟨rfl, rfl⟩
  · by_cases h2 : k = 2
    · subst h2
      go_enter Try.func39, Try.ntmps39
      go_wp2_with (first | (at_make; refine Stop.un ?_) | (at_builtin; refine Stop.un ?_) | (with_reducible refine Stop.conv 40 9 ?_) | (with_reducible refine Stop.conv 9 40 ?_))
      go_ret
      exact ⟨rfl, rfl⟩
    · have e1 : (k == 1) = false := by simpa using h1
      have e2 : (k == 2) = false := by simpa using h2
      have e3 : kindB k = (k == 3) := by
        unfold kindB
        by_cases h3 : k = 3
        · subst h3; rfl
        · simp [h1, h2, h3]
      rw [e3]
      clear h1 h2 e3
      go_enter Try.func39, Try.ntmps39
      go_wp2_with (first | (at_make; refine Stop.un ?_) | (at_builtin; refine Stop.un ?_) | (with_reducible refine Stop.conv 40 9 ?_) | (with_reducible refine Stop.conv 9 40 ?_))
      go_ret
      exact ⟨rfl, rfl⟩
set_option maxRecDepth 100000 in
set_option maxHeartbeats 16000000 in
theorem zright_any (kd : Int) (z : Zn) (w : World) (hin : InR z.many ∧ InR z.nulls) : Calls Try.prog 26 #[.int .u8 kd, z.val] w (fun e w' => e = .returned (.bool (rightZ kd z)) ∧ Below w.heap.size w w') := by
  have HK := Lib.hid (fun w => zkind_any kd w)
  obtain ⟨⟨k, n, s⟩, ⟨k', n', s'⟩, nu, ma⟩ := z
  have HL := Lib.hid (fun w => right_x k n s w)
  have HH := Lib.hid (fun w => right_x k' n' s' w)
  have HC := Lib.hid (fun w => compare_x k n s k' n' s' w)
  generalize hR : rightZ kd ⟨⟨k, n, s⟩, ⟨k', n', s'⟩, nu, ma⟩ = R
  unfold rightZ countB ofKind at hR
  simp only at hR
  obtain ⟨⟨hma0, hma1⟩, ⟨hnu0, hnu1⟩⟩ := hin
  simp only at hma0 hma1 hnu0 hnu1
  generalize kindB kd = kb at HK hR
  generalize rightB ⟨k, n, s⟩ = rl at HL hR
  generalize rightB ⟨k', n', s'⟩ = rh at HH hR
  generalize cmpV ⟨k, n, s⟩ ⟨k', n', s'⟩ = c at HC hR
  generalize hq1 : eqV ⟨k, n, s⟩ V.zero = q1 at hR
  generalize hq2 : eqV ⟨k', n', s'⟩ V.zero = q2 at hR
  have HR := Lib.hid hR
  have HQ1 := Lib.hid hq1
  have HQ2 := Lib.hid hq2
  clear hR hq1 hq2
  simp only [Zn.val]
  go_enter Try.func26, Try.ntmps26
  go_upto_region 1 with fail
  have z1 : At (w.alloc (.cells #[.int .u8 k, .int .i64 n, .string s, .int .u8 k', .int .i64 n', .string s', .int .i64 nu, .int .i64 ma] 26)) (w.heap.size) #[.int .u8 k, .int .i64 n, .string s, .int .u8 k', .int .i64 n', .string s', .int .i64 nu, .int .i64 ma] 26 := by simpa only [World.size_alloc, Nat.add_assoc, Nat.reduceAdd] using At.new w #[.int .u8 k, .int .i64 n, .string s, .int .u8 k', .int .i64 n', .string s', .int .i64 nu, .int .i64 ma] 26
  have BB : Below w.heap.size w (w.alloc (.cells #[.int .u8 k, .int .i64 n, .string s, .int .u8 k', .int .i64 n', .string s', .int .i64 nu, .int .i64 ma] 26)) := Below.alloc (Below.refl w.heap.size w) (by (try simp only [World.size_alloc]) <;> omega) (.cells #[.int .u8 k, .int .i64 n, .string s, .int .u8 k', .int .i64 n', .string s', .int .i64 nu, .int .i64 ma] 26)
  generalize w.alloc (.cells #[.int .u8 k, .int .i64 n, .string s, .int .u8 k', .int .i64 n', .string s', .int .i64 nu, .int .i64 ma] 26) = wx at z1 BB ⊢
  have x0 := z1.cell 0 rfl
  have x1 := z1.cell 1 rfl
  have x2 := z1.cell 2 rfl
  have x3 := z1.cell 3 rfl
  have x4 := z1.cell 4 rfl
  have x5 := z1.cell 5 rfl
  have x6 := z1.cell 6 rfl
  have x7 := z1.cell 7 rfl
  have xl := z1.lt
  go_wp2_with (first | (at_make; refine Stop.un ?_) | (at_builtin; refine Stop.un ?_) | (with_reducible refine Stop.conv 40 9 ?_) | (with_reducible refine Stop.conv 9 40 ?_))
  refine (HK.out _).mono ?_
  rintro e w1 ⟨rfl, rfl⟩
  cases kb with
  | false =>
    have hr : R = false := by rw [← HR.out]; rfl
    subst hr
    go_wp2_with (first | (at_make; refine Stop.un ?_) | (at_builtin; refine Stop.un ?_) | (with_reducible refine Stop.conv 40 9 ?_) | (with_reducible refine Stop.conv 9 40 ?_))
    go_ret
    exact ⟨rfl, BB⟩
  | true =>
    by_cases h1 : ma < 0
    ·
      have hr : R = false := by rw [← HR.out]; simp only [Bool.and_eq_false_iff, decide_eq_false_iff_not]; exact .inl (.inr (by omega))
      subst hr
      go_wp2_with (first | (at_make; refine Stop.un ?_) | (at_builtin; refine Stop.un ?_) | (with_reducible refine Stop.conv 40 9 ?_) | (with_reducible refine Stop.conv 9 40 ?_))
      go_ret
      exact ⟨rfl, BB⟩
    ·
      by_cases h2 : 4096 < ma
      ·
        have hr : R = false := by rw [← HR.out]; simp only [Bool.and_eq_false_iff, decide_eq_false_iff_not]; exact .inl (.inr (by omega))
        subst hr
        go_wp2_with (first | (at_make; refine Stop.un ?_) | (at_builtin; refine Stop.un ?_) | (with_reducible refine Stop.conv 40 9 ?_) | (with_reducible refine Stop.conv 9 40 ?_))
        go_ret
        exact ⟨rfl, BB⟩
      ·
        by_cases h3 : nu < 0
        ·
          have hr : R = false := by rw [← HR.out]; simp only [Bool.and_eq_false_iff, decide_eq_false_iff_not]; exact .inl (.inr (by omega))
          subst hr
          go_wp2_with (first | (at_make; refine Stop.un ?_) | (at_builtin; refine Stop.un ?_) | (with_reducible refine Stop.conv 40 9 ?_) | (with_reducible refine Stop.conv 9 40 ?_))
          go_ret
          exact ⟨rfl, BB⟩
        ·
          by_cases h4 : ma < nu
          ·
            have hr : R = false := by rw [← HR.out]; simp only [Bool.and_eq_false_iff, decide_eq_false_iff_not]; exact .inl (.inr (by omega))
            subst hr
            go_wp2_with (first | (at_make; refine Stop.un ?_) | (at_builtin; refine Stop.un ?_) | (with_reducible refine Stop.conv 40 9 ?_) | (with_reducible refine Stop.conv 9 40 ?_))
            go_ret
            exact ⟨rfl, BB⟩
          ·
            have hcb : decide (0 ≤ ma ∧ ma ≤ 4096 ∧ 0 ≤ nu ∧ nu ≤ ma) = true := decide_eq_true (by omega)
            have hr0 := HR.out
            rw [hcb] at hr0
            simp only [Bool.true_and] at hr0
            have HR2 := Lib.hid hr0
            clear hr0 hcb HR HK
            by_cases h5 : ma - nu = 0
            ·
              have hr0 := HR2.out
              rw [if_pos h5] at hr0
              have HR3 := Lib.hid hr0
              have hb5 : (ma - nu == 0) = true := by simpa using h5
              clear hr0 HR2 h5
              go_wp2_with (first | (at_make; refine Stop.un ?_) | (at_builtin; refine Stop.un ?_) | (with_reducible refine Stop.conv 40 9 ?_) | (with_reducible refine Stop.conv 9 40 ?_) | (with_reducible refine Stop.eql 24 ?_) | (with_reducible refine Stop.neq 24 ?_))
              refine Stop.mk (wpList_as _ rfl (exec_eqV ⟨_, _, _⟩ V.zero rfl rfl _) ?_)
              rw [HQ1.out]
              cases q1 with
              | false =>
                have hr : R = false := by rw [← HR3.out]; rfl
                subst hr
                go_wp2_with (first | (at_make; refine Stop.un ?_) | (at_builtin; refine Stop.un ?_) | (with_reducible refine Stop.conv 40 9 ?_) | (with_reducible refine Stop.conv 9 40 ?_) | (with_reducible refine Stop.eql 24 ?_) | (with_reducible refine Stop.neq 24 ?_))
                go_ret
                exact ⟨rfl, BB⟩
              | true =>
                go_wp2_with (first | (at_make; refine Stop.un ?_) | (at_builtin; refine Stop.un ?_) | (with_reducible refine Stop.conv 40 9 ?_) | (with_reducible refine Stop.conv 9 40 ?_) | (with_reducible refine Stop.eql 24 ?_) | (with_reducible refine Stop.neq 24 ?_))
                refine Stop.mk (wpList_as _ rfl (exec_eqV ⟨_, _, _⟩ V.zero rfl rfl _) ?_)
                rw [HQ2.out]
                have hr : R = q2 := by rw [← HR3.out]; simp
                subst hr
                go_wp2_with (first | (at_make; refine Stop.un ?_) | (at_builtin; refine Stop.un ?_) | (with_reducible refine Stop.conv 40 9 ?_) | (with_reducible refine Stop.conv 9 40 ?_) | (with_reducible refine Stop.eql 24 ?_) | (with_reducible refine Stop.neq 24 ?_))
                go_ret
                exact ⟨rfl, BB⟩
            ·
              have hr0 := HR2.out
              rw [if_neg h5] at hr0
              have HR3 := Lib.hid hr0
              have hb5 : (ma - nu == 0) = false := by simpa using h5
              clear hr0 HR2
              go_wp2_with (first | (at_make; refine Stop.un ?_) | (at_builtin; refine Stop.un ?_) | (with_reducible refine Stop.conv 40 9 ?_) | (with_reducible refine Stop.conv 9 40 ?_))
              refine wp_loop_rounds 3 ?_
              rw [rounds_succ]
              have zb := At.new wx #[.int .u8 k, .int .i64 n, .string s, .int .u8 k', .int .i64 n', .string s'] 24
              have bz := (Below.refl wx.heap.size wx).alloc (Nat.le_refl _) (.cells #[.int .u8 k, .int .i64 n, .string s, .int .u8 k', .int .i64 n', .string s'] 24)
              replace z1 := At.mono z1 bz
              replace BB := Below.next BB bz
              clear bz x0 x1 x2 x3 x4 x5 x6 x7 xl
              generalize wx.alloc (.cells #[.int .u8 k, .int .i64 n, .string s, .int .u8 k', .int .i64 n', .string s'] 24) = wy at z1 zb BB ⊢
              generalize wx.heap.size = hb at zb ⊢
              have y0 := zb.cell 0 rfl
              have y1 := zb.cell 1 rfl
              have y2 := zb.cell 2 rfl
              have y3 := zb.cell 3 rfl
              have y4 := zb.cell 4 rfl
              have y5 := zb.cell 5 rfl
              have yl := zb.lt
              have zv := At.new wy #[.int .u8 k, .int .i64 n, .string s] 24
              have bz := (Below.refl wy.heap.size wy).alloc (Nat.le_refl _) (.cells #[.int .u8 k, .int .i64 n, .string s] 24)
              replace z1 := At.mono z1 bz
              replace zb := At.mono zb bz
              replace BB := Below.next BB bz
              clear bz
              go_wp2_with (first | (at_make; refine Stop.un ?_) | (at_builtin; refine Stop.un ?_) | (with_reducible refine Stop.conv 40 9 ?_) | (with_reducible refine Stop.conv 9 40 ?_))
              refine (HL.out _).mono ?_
              rintro e wz ⟨rfl, bz⟩
              replace z1 := At.mono z1 bz
              replace zb := At.mono zb bz
              replace zv := At.mono zv bz
              replace BB := Below.next BB bz
              clear bz yl y0 y1 y2 y3 y4 y5
              have v0 := zv.cell 0 rfl
              have vl := zv.lt
              cases rl with
              | false =>
                have hr : R = false := by rw [← HR3.out]; simp
                subst hr
                go_wp2_with (first | (at_make; refine Stop.un ?_) | (at_builtin; refine Stop.un ?_) | (with_reducible refine Stop.conv 40 9 ?_) | (with_reducible refine Stop.conv 9 40 ?_))
                go_ret
                exact ⟨rfl, BB⟩
              | true =>
                by_cases hk0 : k = kd
                ·
                  have he0 : (k != kd) = false := by simpa using hk0
                  have HKE0 := Lib.hid hk0
                  clear hk0
                  go_wp2_with (first | (at_make; refine Stop.un ?_) | (at_builtin; refine Stop.un ?_) | (with_reducible refine Stop.conv 40 9 ?_) | (with_reducible refine Stop.conv 9 40 ?_))
                  rw [rounds_succ]
                  clear zv vl v0
                  obtain ⟨wy, rfl⟩ : ∃ wo : World, wo = wz := ⟨_, rfl⟩
                  have y0 := zb.cell 0 rfl
                  have y1 := zb.cell 1 rfl
                  have y2 := zb.cell 2 rfl
                  have y3 := zb.cell 3 rfl
                  have y4 := zb.cell 4 rfl
                  have y5 := zb.cell 5 rfl
                  have yl := zb.lt
                  have zv := At.new wy #[.int .u8 k', .int .i64 n', .string s'] 24
                  have bz := (Below.refl wy.heap.size wy).alloc (Nat.le_refl _) (.cells #[.int .u8 k', .int .i64 n', .string s'] 24)
                  replace z1 := At.mono z1 bz
                  replace zb := At.mono zb bz
                  replace BB := Below.next BB bz
                  clear bz
                  go_wp2_with (first | (at_make; refine Stop.un ?_) | (at_builtin; refine Stop.un ?_) | (with_reducible refine Stop.conv 40 9 ?_) | (with_reducible refine Stop.conv 9 40 ?_))
                  refine (HH.out _).mono ?_
                  rintro e wz ⟨rfl, bz⟩
                  replace z1 := At.mono z1 bz
                  replace zb := At.mono zb bz
                  replace zv := At.mono zv bz
                  replace BB := Below.next BB bz
                  clear bz yl y0 y1 y2 y3 y4 y5
                  have v0 := zv.cell 0 rfl
                  have vl := zv.lt
                  cases rh with
                  | false =>
                    have hr : R = false := by rw [← HR3.out]; simp
                    subst hr
                    go_wp2_with (first | (at_make; refine Stop.un ?_) | (at_builtin; refine Stop.un ?_) | (with_reducible refine Stop.conv 40 9 ?_) | (with_reducible refine Stop.conv 9 40 ?_))
                    go_ret
                    exact ⟨rfl, BB⟩
                  | true =>
                    by_cases hk1 : k' = kd
                    ·
                      have he1 : (k' != kd) = false := by simpa using hk1
                      have HKE1 := Lib.hid hk1
                      clear hk1
                      go_wp2_with (first | (at_make; refine Stop.un ?_) | (at_builtin; refine Stop.un ?_) | (with_reducible refine Stop.conv 40 9 ?_) | (with_reducible refine Stop.conv 9 40 ?_))
                      rw [rounds_succ]
                      clear zv vl v0 zb
                      have x0 := z1.cell 0 rfl
                      have x1 := z1.cell 1 rfl
                      have x2 := z1.cell 2 rfl
                      have x3 := z1.cell 3 rfl
                      have x4 := z1.cell 4 rfl
                      have x5 := z1.cell 5 rfl
                      have x6 := z1.cell 6 rfl
                      have x7 := z1.cell 7 rfl
                      have xl := z1.lt
                      go_wp2_with (first | (at_make; refine Stop.un ?_) | (at_builtin; refine Stop.un ?_) | (with_reducible refine Stop.conv 40 9 ?_) | (with_reducible refine Stop.conv 9 40 ?_))
                      refine (HC.out _).mono ?_
                      rintro e w9 ⟨rfl, b9⟩
                      replace BB := BB.next b9
                      clear b9 z1 xl x0 x1 x2 x3 x4 x5 x6 x7
                      have hr0 := HR3.out
                      simp only [HKE0.out, HKE1.out, decide_true, Bool.and_true, Bool.true_and] at hr0
                      by_cases hc0 : c = 0
                      ·
                        have hr : R = true := by rw [← hr0]; exact decide_eq_true (.inl hc0)
                        subst hr
                        have hb0 : (c == 0) = true := by simpa using hc0
                        go_wp2_with (first | (at_make; refine Stop.un ?_) | (at_builtin; refine Stop.un ?_) | (with_reducible refine Stop.conv 40 9 ?_) | (with_reducible refine Stop.conv 9 40 ?_))
                        go_ret
                        exact ⟨rfl, BB⟩
                      ·
                        have hb0 : (c == 0) = false := by simpa using hc0
                        by_cases hc1 : c < 0
                        ·
                          have hr : R = decide (1 < ma - nu) := by rw [← hr0]; exact decide_eq_decide.2 ⟨fun h => by omega, fun h => .inr ⟨hc1, h⟩⟩
                          subst hr
                          clear hr0
                          go_wp2_with (first | (at_make; refine Stop.un ?_) | (at_builtin; refine Stop.un ?_) | (with_reducible refine Stop.conv 40 9 ?_) | (with_reducible refine Stop.conv 9 40 ?_))
                          go_ret
                          exact ⟨rfl, BB⟩
                        ·
                          have hr : R = false := by rw [← hr0]; exact decide_eq_false (by omega)
                          subst hr
                          go_wp2_with (first | (at_make; refine Stop.un ?_) | (at_builtin; refine Stop.un ?_) | (with_reducible refine Stop.conv 40 9 ?_) | (with_reducible refine Stop.conv 9 40 ?_))
                          go_ret
                          exact ⟨rfl, BB⟩
                    ·
                      have he1 : (k' != kd) = true := by simpa using hk1
                      have hr : R = false := by rw [← HR3.out]; simp [hk1]
                      subst hr
                      go_wp2_with (first | (at_make; refine Stop.un ?_) | (at_builtin; refine Stop.un ?_) | (with_reducible refine Stop.conv 40 9 ?_) | (with_reducible refine Stop.conv 9 40 ?_))
                      go_ret
                      exact ⟨rfl, BB⟩
                ·
                  have he0 : (k != kd) = true := by simpa using hk0
                  have hr : R = false := by rw [← HR3.out]; simp [hk0]
                  subst hr
                  go_wp2_with (first | (at_make; refine Stop.un ?_) | (at_builtin; refine Stop.un ?_) | (with_reducible refine Stop.conv 40 9 ?_) | (with_reducible refine Stop.conv 9 40 ?_))
                  go_ret
                  exact ⟨rfl, BB⟩
end Go.Proofs.Ytdpmaocbfmgmlaa
