/- Some first values; what is known of values: what the program returns. -/
import Derived.Test.YtdpmaocbfmgmlaaZRMerge
import Derived.Test.YtdpmaocbfmgmlaaVRow
set_option linter.unusedVariables false
set_option linter.unusedSimpArgs false
namespace Go.Proofs.Ytdpmaocbfmgmlaa
open Go.RowKit
/-- How many values few leaves. -/
def fewN : Nat → List V → Nat
  | _, [] => 0
  | k, v :: l => if 300 ≤ k ∨ 1100 < v.s.size then 0 else fewN (k + 1) l + 1
theorem fewN_le : ∀ (l : List V) (k : Nat), fewN k l ≤ l.length
  | [], _ => Nat.le_refl _
  | v :: l, k => by
    unfold fewN
    have := fewN_le l (k + 1)
    split
    · omega
    · rw [List.length_cons]; omega
theorem fewN_300 : ∀ (l : List V) (k : Nat), k ≤ 300 → fewN k l + k ≤ 300
  | [], k, h => by simp [fewN]; exact h
  | v :: l, k, h => by
    unfold fewN
    split
    · omega
    · have := fewN_300 l (k + 1) (by omega)
      omega
set_option maxHeartbeats 1000000 in
theorem few_any (ao : Option Addr) (m cap : Nat) (l : List V) (w : World) (hc : Cs w ao (vcells l)) (hm : l.length = m) (hl : m ≤ cap) (hcm : cap ≤ maxLen) :
    Calls Try.prog 12 #[.slice ao m cap] w (fun e w' => e = .returned (.slice ao (fewN 0 l) cap) ∧ w = w') := by
  unfold maxLen at hcm
  have HM := Lib.hid hm
  clear hm
  go_enter Try.func12, Try.ntmps12
  go_wp2_with (first | (at_make; refine Stop.un ?_) | (at_builtin; refine Stop.un ?_) | (with_reducible refine Stop.conv 40 9 ?_) | (with_reducible refine Stop.conv 9 40 ?_))
  go_loopw [3, 6] (fun p i wr => ∃ j : Nat, j ≤ m ∧ i = .int .i64 (j : Int) ∧ wr = w ∧ Hid (fewN 0 l = fewN j (l.drop j) + j)) (fun _ i _ => m - (intOf i).toNat)
  case atStart => exact ⟨0, Nat.zero_le _, rfl, rfl, Lib.hid (by simp)⟩
  case round =>
    obtain ⟨j, hj, rfl, rfl, HF⟩ := hrel
    by_cases hlt : j < m
    · have hjl : j < l.length := by have := HM.out; omega
      obtain ⟨b, o, rfl⟩ := hc.addr (by rw [vcells_length]; omega)
      obtain ⟨x0, x1, x2⟩ := hc.vat hjl
      have hf := HF.out
      rw [List.drop_eq_getElem_cons hjl, fewN] at hf
      generalize l[j] = v at x0 x1 x2 hf
      obtain ⟨k, n, s⟩ := v
      simp only at x0 x1 x2 hf
      have HF2 := Lib.hid hf
      clear hf HF hjl
      by_cases h1 : 300 ≤ j
      · have h2 : (300 : Int) ≤ j := by omega
        go_wp2_with (first | (at_make; refine Stop.un ?_) | (at_builtin; refine Stop.un ?_) | (with_reducible refine Stop.conv 40 9 ?_) | (with_reducible refine Stop.conv 9 40 ?_))
        go_ret
        exact ⟨by rw [HF2.out, if_pos (.inl h1), Nat.zero_add] <;> rfl, rfl⟩
      · have h2 : ¬ (300 : Int) ≤ j := by omega
        by_cases h3 : 1100 < s.size
        · have h4 : (1100 : Int) < s.size := by omega
          go_wp2_with (first | (at_make; refine Stop.un ?_) | (at_builtin; refine Stop.un ?_) | (with_reducible refine Stop.conv 40 9 ?_) | (with_reducible refine Stop.conv 9 40 ?_))
          go_ret
          exact ⟨by rw [HF2.out, if_pos (.inr h3), Nat.zero_add] <;> rfl, rfl⟩
        · have h4 : ¬ (1100 : Int) < s.size := by omega
          go_wp2_with (first | (at_make; refine Stop.un ?_) | (at_builtin; refine Stop.un ?_) | (with_reducible refine Stop.conv 40 9 ?_) | (with_reducible refine Stop.conv 9 40 ?_))
          go_roundw
          case rel => exact ⟨j + 1, by omega, by go_num, trivial, Lib.hid (by rw [HF2.out, if_neg (fun x => x.elim h1 h3)]; omega)⟩
          case measure => simp [intOf]; omega
    · have hf := HF.out
      rw [List.drop_of_length_le (by have := HM.out; omega), fewN] at hf
      have HF2 := Lib.hid hf
      have hjm : j = m := by omega
      subst hjm
      clear hf HF
      go_wp2_with (first | (at_make; refine Stop.un ?_) | (at_builtin; refine Stop.un ?_) | (with_reducible refine Stop.conv 40 9 ?_) | (with_reducible refine Stop.conv 9 40 ?_))
      go_ret
      exact ⟨by rw [HF2.out, Nat.zero_add] <;> rfl, rfl⟩
set_option maxHeartbeats 2000000 in
theorem zof_any (ao : Option Addr) (m cap : Nat) (l : List V) (w : World) (hc : Cs w ao (vcells l)) (hm : l.length = m) (hl : m ≤ cap) (hcm : cap ≤ maxLen) :
    Calls Try.prog 11 #[.slice ao m cap] w (fun e w' => e = .returned (ofZ l).val ∧ Below w.heap.size w w') := by
  unfold maxLen at hcm
  have HM := Lib.hid hm
  clear hm
  generalize hzl : ofZ l = zl
  obtain ⟨⟨k8, n8, s8⟩, ⟨k9, n9, s9⟩, nu9, ma9⟩ := zl
  have HZL := Lib.hid hzl
  clear hzl
  simp only [Zn.val]
  go_enter Try.func11, Try.ntmps11
  go_wp2_with (first | (at_make; refine Stop.un ?_) | (at_builtin; refine Stop.un ?_) | (with_reducible refine Stop.conv 40 9 ?_) | (with_reducible refine Stop.conv 9 40 ?_))
  have z1 : At ((w.alloc (.cells #[.int .u8 0, .int .i64 0, .string ⟨#[]⟩, .int .u8 0, .int .i64 0, .string ⟨#[]⟩, .int .i64 0, .int .i64 0] 26)).alloc (.cells #[.int .u8 0, .int .i64 0, .string ⟨#[]⟩, .int .u8 0, .int .i64 0, .string ⟨#[]⟩, .int .i64 0, .int .i64 0] 26)) (w.heap.size) #[.int .u8 0, .int .i64 0, .string ⟨#[]⟩, .int .u8 0, .int .i64 0, .string ⟨#[]⟩, .int .i64 0, .int .i64 0] 26 := by simpa only [World.size_alloc, Nat.add_assoc, Nat.reduceAdd] using (At.new w #[.int .u8 0, .int .i64 0, .string ⟨#[]⟩, .int .u8 0, .int .i64 0, .string ⟨#[]⟩, .int .i64 0, .int .i64 0] 26).alloc (.cells #[.int .u8 0, .int .i64 0, .string ⟨#[]⟩, .int .u8 0, .int .i64 0, .string ⟨#[]⟩, .int .i64 0, .int .i64 0] 26)
  have z2 : At ((w.alloc (.cells #[.int .u8 0, .int .i64 0, .string ⟨#[]⟩, .int .u8 0, .int .i64 0, .string ⟨#[]⟩, .int .i64 0, .int .i64 0] 26)).alloc (.cells #[.int .u8 0, .int .i64 0, .string ⟨#[]⟩, .int .u8 0, .int .i64 0, .string ⟨#[]⟩, .int .i64 0, .int .i64 0] 26)) (w.heap.size + 1) #[.int .u8 0, .int .i64 0, .string ⟨#[]⟩, .int .u8 0, .int .i64 0, .string ⟨#[]⟩, .int .i64 0, .int .i64 0] 26 := by simpa only [World.size_alloc, Nat.add_assoc, Nat.reduceAdd] using At.new (w.alloc (.cells #[.int .u8 0, .int .i64 0, .string ⟨#[]⟩, .int .u8 0, .int .i64 0, .string ⟨#[]⟩, .int .i64 0, .int .i64 0] 26)) #[.int .u8 0, .int .i64 0, .string ⟨#[]⟩, .int .u8 0, .int .i64 0, .string ⟨#[]⟩, .int .i64 0, .int .i64 0] 26
  have BB : Below w.heap.size w ((w.alloc (.cells #[.int .u8 0, .int .i64 0, .string ⟨#[]⟩, .int .u8 0, .int .i64 0, .string ⟨#[]⟩, .int .i64 0, .int .i64 0] 26)).alloc (.cells #[.int .u8 0, .int .i64 0, .string ⟨#[]⟩, .int .u8 0, .int .i64 0, .string ⟨#[]⟩, .int .i64 0, .int .i64 0] 26)) := Below.alloc (Below.alloc (Below.refl w.heap.size w) (by (try simp only [World.size_alloc]) <;> omega) (.cells #[.int .u8 0, .int .i64 0, .string ⟨#[]⟩, .int .u8 0, .int .i64 0, .string ⟨#[]⟩, .int .i64 0, .int .i64 0] 26)) (by (try simp only [World.size_alloc]) <;> omega) (.cells #[.int .u8 0, .int .i64 0, .string ⟨#[]⟩, .int .u8 0, .int .i64 0, .string ⟨#[]⟩, .int .i64 0, .int .i64 0] 26)
  go_loopw [5, 8] (fun p i wr => ∃ (j : Nat) (z : Zn), j ≤ m ∧ i = .int .i64 (j : Int) ∧ Hid (z = ofZ (l.take j)) ∧ At wr w.heap.size #[.int .u8 0, .int .i64 0, .string ⟨#[]⟩, .int .u8 0, .int .i64 0, .string ⟨#[]⟩, .int .i64 0, .int .i64 0] 26 ∧ At wr (w.heap.size + 1) #[.int .u8 z.lo.k, .int .i64 z.lo.n, .string z.lo.s, .int .u8 z.hi.k, .int .i64 z.hi.n, .string z.hi.s, .int .i64 z.nulls, .int .i64 z.many] 26 ∧ Below w.heap.size w wr) (fun _ i _ => m - (intOf i).toNat)
  case atStart => exact ⟨0, Zn.zero, Nat.zero_le _, rfl, Lib.hid rfl, z1, z2, BB⟩
  case round =>
    clear z1 z2 BB
    obtain ⟨j, z, hj, rfl, HZ, z1, z2, BB⟩ := hrel
    by_cases hlt : j < m
    · have hjl : j < l.length := by have := HM.out; omega
      obtain ⟨b, o, rfl⟩ := hc.addr (by rw [vcells_length]; omega)
      have hc2 := hc.mono BB (Nat.le_refl _)
      obtain ⟨x0, x1, x2⟩ := hc2.vat hjl
      have ht : ofZ (l.take (j + 1)) = mergeZ z (oneZ l[j]) := by rw [List.take_succ_eq_append_getElem hjl, ofZ_snoc, HZ.out]
      generalize l[j] = v at x0 x1 x2 ht
      have HO := Lib.hid (fun w => one_any v w)
      have HG := Lib.hid (fun w => merge_any z (oneZ v) w)
      have hone : (if v.k = 0 then ⟨V.zero, V.zero, 1, 1⟩ else ⟨v, v, 0, 1⟩) = oneZ v := rfl
      generalize mergeZ z (oneZ v) = y at HG ht
      generalize oneZ v = u at HO HG hone
      have HT := Lib.hid ht
      have HU := Lib.hid hone
      clear ht hjl hc2 hone
      obtain ⟨k, n, s⟩ := v
      obtain ⟨⟨k2, n2, s2⟩, ⟨k3, n3, s3⟩, nu, ma⟩ := z
      obtain ⟨⟨k4, n4, s4⟩, ⟨k5, n5, s5⟩, nu2, ma2⟩ := u
      obtain ⟨⟨k6, n6, s6⟩, ⟨k7, n7, s7⟩, nu3, ma3⟩ := y
      simp only [V.val, Zn.val] at HO HG x0 x1 x2 z2
      go_wp2_with (first | (at_make; refine Stop.un ?_) | (at_builtin; refine Stop.un ?_) | (with_reducible refine Stop.conv 40 9 ?_) | (with_reducible refine Stop.conv 9 40 ?_))
      have z3 := At.new wr #[.int .u8 k, .int .i64 n, .string s] 24
      replace z1 := z1.alloc (.cells #[.int .u8 k, .int .i64 n, .string s] 24)
      replace z2 := z2.alloc (.cells #[.int .u8 k, .int .i64 n, .string s] 24)
      replace BB := BB.next ((Below.refl wr.heap.size wr).alloc (Nat.le_refl _) (.cells #[.int .u8 k, .int .i64 n, .string s] 24))
      refine mix_startN 5 rfl (by kernel_rfl) ?_
      intro xq hxq
      replace z1 := At.mono z1 hxq
      replace z2 := At.mono z2 hxq
      replace z3 := At.mono z3 hxq
      replace BB := Below.next BB hxq
      clear hxq
      refine mix_two 0 1 rfl rfl (by kernel_rfl) rfl rfl ?_ ?_
      ·
        have fb0 := z2.cell 0 rfl
        have fb1 := z2.cell 1 rfl
        have fb2 := z2.cell 2 rfl
        have fb3 := z2.cell 3 rfl
        have fb4 := z2.cell 4 rfl
        have fb5 := z2.cell 5 rfl
        have fb6 := z2.cell 6 rfl
        have fb7 := z2.cell 7 rfl
        have fb8 := z3.cell 0 rfl
        have fb9 := z3.cell 1 rfl
        have fb10 := z3.cell 2 rfl
        go_wp2_with (first | (at_make; refine Stop.un ?_) | (at_builtin; refine Stop.un ?_) | (with_reducible refine Stop.conv 40 9 ?_) | (with_reducible refine Stop.conv 9 40 ?_))
        refine MixPost.mk (True.intro : AnyW _ _) ?_
        clear fb0 fb1 fb2 fb3 fb4 fb5 fb6 fb7 fb8 fb9 fb10
        refine mix_any 1 rfl (by kernel_rfl) rfl ?_
        have fb0 := z2.cell 0 rfl
        have fb1 := z2.cell 1 rfl
        have fb2 := z2.cell 2 rfl
        have fb3 := z2.cell 3 rfl
        have fb4 := z2.cell 4 rfl
        have fb5 := z2.cell 5 rfl
        have fb6 := z2.cell 6 rfl
        have fb7 := z2.cell 7 rfl
        have fb8 := z3.cell 0 rfl
        have fb9 := z3.cell 1 rfl
        have fb10 := z3.cell 2 rfl
        go_wp2_with (first | (at_make; refine Stop.un ?_) | (at_builtin; refine Stop.un ?_) | (with_reducible refine Stop.conv 40 9 ?_) | (with_reducible refine Stop.conv 9 40 ?_))
        refine MixPost.mk (True.intro : AnyW _ _) ?_
        clear fb0 fb1 fb2 fb3 fb4 fb5 fb6 fb7 fb8 fb9 fb10
        refine mix_any 2 rfl (by kernel_rfl) rfl ?_
        go_wp2_with (first | (at_make; refine Stop.un ?_) | (at_builtin; refine Stop.un ?_) | (with_reducible refine Stop.conv 40 9 ?_) | (with_reducible refine Stop.conv 9 40 ?_))
        refine (HO.out _).mono ?_
        rintro e wq1 ⟨rfl, bq1⟩
        go_wp2_with (first | (at_make; refine Stop.un ?_) | (at_builtin; refine Stop.un ?_) | (with_reducible refine Stop.conv 40 9 ?_) | (with_reducible refine Stop.conv 9 40 ?_))
        refine MixPost.mk (True.intro : AnyW _ _) ?_
        replace z1 := At.mono z1 bq1
        replace z2 := At.mono z2 bq1
        replace z3 := At.mono z3 bq1
        replace BB := Below.next BB bq1
        clear bq1
        refine mix_any 3 rfl (by kernel_rfl) rfl ?_
        go_wp2_with (first | (at_make; refine Stop.un ?_) | (at_builtin; refine Stop.un ?_) | (with_reducible refine Stop.conv 40 9 ?_) | (with_reducible refine Stop.conv 9 40 ?_))
        refine (HG.out _).mono ?_
        rintro e wq2 ⟨rfl, bq2⟩
        go_wp2_with (first | (at_make; refine Stop.un ?_) | (at_builtin; refine Stop.un ?_) | (with_reducible refine Stop.conv 40 9 ?_) | (with_reducible refine Stop.conv 9 40 ?_))
        refine MixPost.mk (True.intro : AnyW _ _) ?_
        replace z1 := At.mono z1 bq2
        replace z2 := At.mono z2 bq2
        replace z3 := At.mono z3 bq2
        replace BB := Below.next BB bq2
        clear bq2
        refine mix_any 4 rfl (by kernel_rfl) rfl ?_
        have y0 := z2.cell 0 rfl
        have yf0 := z2.free 0
        have y1 := z2.cell 1 rfl
        have yf1 := z2.free 1
        have y2 := z2.cell 2 rfl
        have yf2 := z2.free 2
        have y3 := z2.cell 3 rfl
        have yf3 := z2.free 3
        have y4 := z2.cell 4 rfl
        have yf4 := z2.free 4
        have y5 := z2.cell 5 rfl
        have yf5 := z2.free 5
        have y6 := z2.cell 6 rfl
        have yf6 := z2.free 6
        have y7 := z2.cell 7 rfl
        have yf7 := z2.free 7
        have yl := z2.lt
        go_wp2_with (first | (at_make; refine Stop.un ?_) | (at_builtin; refine Stop.un ?_) | (with_reducible refine Stop.conv 40 9 ?_) | (with_reducible refine Stop.conv 9 40 ?_))
        refine MixPost.mk (True.intro : AnyW _ _) ?_
        replace z1 := z1
        refine mix_end (by kernel_rfl) ?_
        go_wp2_with (first | (at_make; refine Stop.un ?_) | (at_builtin; refine Stop.un ?_) | (with_reducible refine Stop.conv 40 9 ?_) | (with_reducible refine Stop.conv 9 40 ?_))
        go_roundw
        case rel => exact ⟨j + 1, ⟨⟨k6, n6, s6⟩, ⟨k7, n7, s7⟩, nu3, ma3⟩, by omega, by go_num, Lib.hid HT.out.symm, by repeat' (first | with_reducible exact z1 | refine At.off ?_ (by simp) _), z2.set8 (.int .u8 k6) (.int .i64 n6) (.string s6) (.int .u8 k7) (.int .i64 n7) (.string s7) (.int .i64 nu3) (.int .i64 ma3), below_set8 BB _ _ _ _ _ _ _ _  (by omega)⟩
        case measure => simp [intOf]; omega
      ·
        have fb0 := z2.cell 0 rfl
        have fb1 := z2.cell 1 rfl
        have fb2 := z2.cell 2 rfl
        have fb3 := z2.cell 3 rfl
        have fb4 := z2.cell 4 rfl
        have fb5 := z2.cell 5 rfl
        have fb6 := z2.cell 6 rfl
        have fb7 := z2.cell 7 rfl
        have fb8 := z3.cell 0 rfl
        have fb9 := z3.cell 1 rfl
        have fb10 := z3.cell 2 rfl
        go_wp2_with (first | (at_make; refine Stop.un ?_) | (at_builtin; refine Stop.un ?_) | (with_reducible refine Stop.conv 40 9 ?_) | (with_reducible refine Stop.conv 9 40 ?_))
        refine MixPost.mk (True.intro : AnyW _ _) ?_
        clear fb0 fb1 fb2 fb3 fb4 fb5 fb6 fb7 fb8 fb9 fb10
        refine mix_two 0 2 rfl rfl (by kernel_rfl) rfl rfl ?_ ?_
        ·
          have fb0 := z2.cell 0 rfl
          have fb1 := z2.cell 1 rfl
          have fb2 := z2.cell 2 rfl
          have fb3 := z2.cell 3 rfl
          have fb4 := z2.cell 4 rfl
          have fb5 := z2.cell 5 rfl
          have fb6 := z2.cell 6 rfl
          have fb7 := z2.cell 7 rfl
          have fb8 := z3.cell 0 rfl
          have fb9 := z3.cell 1 rfl
          have fb10 := z3.cell 2 rfl
          go_wp2_with (first | (at_make; refine Stop.un ?_) | (at_builtin; refine Stop.un ?_) | (with_reducible refine Stop.conv 40 9 ?_) | (with_reducible refine Stop.conv 9 40 ?_))
          refine MixPost.mk (True.intro : AnyW _ _) ?_
          clear fb0 fb1 fb2 fb3 fb4 fb5 fb6 fb7 fb8 fb9 fb10
          refine mix_any 2 rfl (by kernel_rfl) rfl ?_
          go_wp2_with (first | (at_make; refine Stop.un ?_) | (at_builtin; refine Stop.un ?_) | (with_reducible refine Stop.conv 40 9 ?_) | (with_reducible refine Stop.conv 9 40 ?_))
          refine (HO.out _).mono ?_
          rintro e wq3 ⟨rfl, bq3⟩
          go_wp2_with (first | (at_make; refine Stop.un ?_) | (at_builtin; refine Stop.un ?_) | (with_reducible refine Stop.conv 40 9 ?_) | (with_reducible refine Stop.conv 9 40 ?_))
          refine MixPost.mk (True.intro : AnyW _ _) ?_
          replace z1 := At.mono z1 bq3
          replace z2 := At.mono z2 bq3
          replace z3 := At.mono z3 bq3
          replace BB := Below.next BB bq3
          clear bq3
          refine mix_any 3 rfl (by kernel_rfl) rfl ?_
          go_wp2_with (first | (at_make; refine Stop.un ?_) | (at_builtin; refine Stop.un ?_) | (with_reducible refine Stop.conv 40 9 ?_) | (with_reducible refine Stop.conv 9 40 ?_))
          refine (HG.out _).mono ?_
          rintro e wq4 ⟨rfl, bq4⟩
          go_wp2_with (first | (at_make; refine Stop.un ?_) | (at_builtin; refine Stop.un ?_) | (with_reducible refine Stop.conv 40 9 ?_) | (with_reducible refine Stop.conv 9 40 ?_))
          refine MixPost.mk (True.intro : AnyW _ _) ?_
          replace z1 := At.mono z1 bq4
          replace z2 := At.mono z2 bq4
          replace z3 := At.mono z3 bq4
          replace BB := Below.next BB bq4
          clear bq4
          refine mix_any 4 rfl (by kernel_rfl) rfl ?_
          have y0 := z2.cell 0 rfl
          have yf0 := z2.free 0
          have y1 := z2.cell 1 rfl
          have yf1 := z2.free 1
          have y2 := z2.cell 2 rfl
          have yf2 := z2.free 2
          have y3 := z2.cell 3 rfl
          have yf3 := z2.free 3
          have y4 := z2.cell 4 rfl
          have yf4 := z2.free 4
          have y5 := z2.cell 5 rfl
          have yf5 := z2.free 5
          have y6 := z2.cell 6 rfl
          have yf6 := z2.free 6
          have y7 := z2.cell 7 rfl
          have yf7 := z2.free 7
          have yl := z2.lt
          go_wp2_with (first | (at_make; refine Stop.un ?_) | (at_builtin; refine Stop.un ?_) | (with_reducible refine Stop.conv 40 9 ?_) | (with_reducible refine Stop.conv 9 40 ?_))
          refine MixPost.mk (True.intro : AnyW _ _) ?_
          replace z1 := z1
          refine mix_end (by kernel_rfl) ?_
          go_wp2_with (first | (at_make; refine Stop.un ?_) | (at_builtin; refine Stop.un ?_) | (with_reducible refine Stop.conv 40 9 ?_) | (with_reducible refine Stop.conv 9 40 ?_))
          go_roundw
          case rel => exact ⟨j + 1, ⟨⟨k6, n6, s6⟩, ⟨k7, n7, s7⟩, nu3, ma3⟩, by omega, by go_num, Lib.hid HT.out.symm, by repeat' (first | with_reducible exact z1 | refine At.off ?_ (by simp) _), z2.set8 (.int .u8 k6) (.int .i64 n6) (.string s6) (.int .u8 k7) (.int .i64 n7) (.string s7) (.int .i64 nu3) (.int .i64 ma3), below_set8 BB _ _ _ _ _ _ _ _  (by omega)⟩
          case measure => simp [intOf]; omega
        ·
          go_wp2_with (first | (at_make; refine Stop.un ?_) | (at_builtin; refine Stop.un ?_) | (with_reducible refine Stop.conv 40 9 ?_) | (with_reducible refine Stop.conv 9 40 ?_))
          refine (HO.out _).mono ?_
          rintro e wq5 ⟨rfl, bq5⟩
          go_wp2_with (first | (at_make; refine Stop.un ?_) | (at_builtin; refine Stop.un ?_) | (with_reducible refine Stop.conv 40 9 ?_) | (with_reducible refine Stop.conv 9 40 ?_))
          refine MixPost.mk (True.intro : AnyW _ _) ?_
          replace z1 := At.mono z1 bq5
          replace z2 := At.mono z2 bq5
          replace z3 := At.mono z3 bq5
          replace BB := Below.next BB bq5
          clear bq5
          refine mix_any 0 rfl (by kernel_rfl) rfl ?_
          have fb0 := z2.cell 0 rfl
          have fb1 := z2.cell 1 rfl
          have fb2 := z2.cell 2 rfl
          have fb3 := z2.cell 3 rfl
          have fb4 := z2.cell 4 rfl
          have fb5 := z2.cell 5 rfl
          have fb6 := z2.cell 6 rfl
          have fb7 := z2.cell 7 rfl
          have fb8 := z3.cell 0 rfl
          have fb9 := z3.cell 1 rfl
          have fb10 := z3.cell 2 rfl
          go_wp2_with (first | (at_make; refine Stop.un ?_) | (at_builtin; refine Stop.un ?_) | (with_reducible refine Stop.conv 40 9 ?_) | (with_reducible refine Stop.conv 9 40 ?_))
          refine MixPost.mk (True.intro : AnyW _ _) ?_
          clear fb0 fb1 fb2 fb3 fb4 fb5 fb6 fb7 fb8 fb9 fb10
          refine mix_any 3 rfl (by kernel_rfl) rfl ?_
          go_wp2_with (first | (at_make; refine Stop.un ?_) | (at_builtin; refine Stop.un ?_) | (with_reducible refine Stop.conv 40 9 ?_) | (with_reducible refine Stop.conv 9 40 ?_))
          refine (HG.out _).mono ?_
          rintro e wq6 ⟨rfl, bq6⟩
          go_wp2_with (first | (at_make; refine Stop.un ?_) | (at_builtin; refine Stop.un ?_) | (with_reducible refine Stop.conv 40 9 ?_) | (with_reducible refine Stop.conv 9 40 ?_))
          refine MixPost.mk (True.intro : AnyW _ _) ?_
          replace z1 := At.mono z1 bq6
          replace z2 := At.mono z2 bq6
          replace z3 := At.mono z3 bq6
          replace BB := Below.next BB bq6
          clear bq6
          refine mix_any 4 rfl (by kernel_rfl) rfl ?_
          have y0 := z2.cell 0 rfl
          have yf0 := z2.free 0
          have y1 := z2.cell 1 rfl
          have yf1 := z2.free 1
          have y2 := z2.cell 2 rfl
          have yf2 := z2.free 2
          have y3 := z2.cell 3 rfl
          have yf3 := z2.free 3
          have y4 := z2.cell 4 rfl
          have yf4 := z2.free 4
          have y5 := z2.cell 5 rfl
          have yf5 := z2.free 5
          have y6 := z2.cell 6 rfl
          have yf6 := z2.free 6
          have y7 := z2.cell 7 rfl
          have yf7 := z2.free 7
          have yl := z2.lt
          go_wp2_with (first | (at_make; refine Stop.un ?_) | (at_builtin; refine Stop.un ?_) | (with_reducible refine Stop.conv 40 9 ?_) | (with_reducible refine Stop.conv 9 40 ?_))
          refine MixPost.mk (True.intro : AnyW _ _) ?_
          replace z1 := z1
          refine mix_end (by kernel_rfl) ?_
          go_wp2_with (first | (at_make; refine Stop.un ?_) | (at_builtin; refine Stop.un ?_) | (with_reducible refine Stop.conv 40 9 ?_) | (with_reducible refine Stop.conv 9 40 ?_))
          go_roundw
          case rel => exact ⟨j + 1, ⟨⟨k6, n6, s6⟩, ⟨k7, n7, s7⟩, nu3, ma3⟩, by omega, by go_num, Lib.hid HT.out.symm, by repeat' (first | with_reducible exact z1 | refine At.off ?_ (by simp) _), z2.set8 (.int .u8 k6) (.int .i64 n6) (.string s6) (.int .u8 k7) (.int .i64 n7) (.string s7) (.int .i64 nu3) (.int .i64 ma3), below_set8 BB _ _ _ _ _ _ _ _  (by omega)⟩
          case measure => simp [intOf]; omega

    · have hz := HZ.out
      rw [List.take_of_length_le (by have := HM.out; omega), HZL.out] at hz
      clear HZ HZL
      obtain ⟨⟨k2, n2, s2⟩, ⟨k3, n3, s3⟩, nu, ma⟩ := z
      simp only [Zn.mk.injEq, V.mk.injEq] at hz
      obtain ⟨⟨rfl, rfl, rfl⟩, ⟨rfl, rfl, rfl⟩, rfl, rfl⟩ := hz
      simp only at z2
      have u0 := z1.cell 0 rfl
      have uf0 := z1.free 0
      have u1 := z1.cell 1 rfl
      have uf1 := z1.free 1
      have u2 := z1.cell 2 rfl
      have uf2 := z1.free 2
      have u3 := z1.cell 3 rfl
      have uf3 := z1.free 3
      have u4 := z1.cell 4 rfl
      have uf4 := z1.free 4
      have u5 := z1.cell 5 rfl
      have uf5 := z1.free 5
      have u6 := z1.cell 6 rfl
      have uf6 := z1.free 6
      have u7 := z1.cell 7 rfl
      have uf7 := z1.free 7
      have ul := z1.lt
      have y0 := z2.cell 0 rfl
      have y1 := z2.cell 1 rfl
      have y2 := z2.cell 2 rfl
      have y3 := z2.cell 3 rfl
      have y4 := z2.cell 4 rfl
      have y5 := z2.cell 5 rfl
      have y6 := z2.cell 6 rfl
      have y7 := z2.cell 7 rfl
      have yl := z2.lt
      go_wp2_with (first | (at_make; refine Stop.un ?_) | (at_builtin; refine Stop.un ?_) | (with_reducible refine Stop.conv 40 9 ?_) | (with_reducible refine Stop.conv 9 40 ?_))
      have RQ := z1.set8 (.int .u8 k2) (.int .i64 n2) (.string s2) (.int .u8 k3) (.int .i64 n3) (.string s3) (.int .i64 nu) (.int .i64 ma)
      have rq0 := RQ.cell 0 rfl
      have rq1 := RQ.cell 1 rfl
      have rq2 := RQ.cell 2 rfl
      have rq3 := RQ.cell 3 rfl
      have rq4 := RQ.cell 4 rfl
      have rq5 := RQ.cell 5 rfl
      have rq6 := RQ.cell 6 rfl
      have rq7 := RQ.cell 7 rfl
      have rql := RQ.lt
      exact bodyPost_ret (v := .agg #[.int .u8 k2, .int .i64 n2, .string s2, .int .u8 k3, .int .i64 n3, .string s3, .int .i64 nu, .int .i64 ma]) (by simp [results, Try.results11, go_sem, rq0, rq1, rq2, rq3, rq4, rq5, rq6, rq7]) rfl ⟨rfl, below_set8 BB _ _ _ _ _ _ _ _  (by omega)⟩
set_option maxHeartbeats 2000000 in
theorem rof_any (ao : Option Addr) (m cap : Nat) (l : List V) (w : World) (hc : Cs w ao (vcells l)) (hm : l.length = m) (hl : m ≤ cap) (hcm : cap ≤ maxLen) :
    Calls Try.prog 13 #[.slice ao m cap] w (fun e w' => e = .returned (ofZ l).val ∧ Below w.heap.size w w') := by
  unfold maxLen at hcm
  have HM := Lib.hid hm
  clear hm
  generalize hzl : ofZ l = zl
  obtain ⟨⟨k8, n8, s8⟩, ⟨k9, n9, s9⟩, nu9, ma9⟩ := zl
  have HZL := Lib.hid hzl
  clear hzl
  simp only [Zn.val]
  go_enter Try.func13, Try.ntmps13
  go_wp2_with (first | (at_make; refine Stop.un ?_) | (at_builtin; refine Stop.un ?_) | (with_reducible refine Stop.conv 40 9 ?_) | (with_reducible refine Stop.conv 9 40 ?_))
  have z1 : At ((w.alloc (.cells #[.int .u8 0, .int .i64 0, .string ⟨#[]⟩, .int .u8 0, .int .i64 0, .string ⟨#[]⟩, .int .i64 0, .int .i64 0] 26)).alloc (.cells #[.int .u8 0, .int .i64 0, .string ⟨#[]⟩, .int .u8 0, .int .i64 0, .string ⟨#[]⟩, .int .i64 0, .int .i64 0] 26)) (w.heap.size) #[.int .u8 0, .int .i64 0, .string ⟨#[]⟩, .int .u8 0, .int .i64 0, .string ⟨#[]⟩, .int .i64 0, .int .i64 0] 26 := by simpa only [World.size_alloc, Nat.add_assoc, Nat.reduceAdd] using (At.new w #[.int .u8 0, .int .i64 0, .string ⟨#[]⟩, .int .u8 0, .int .i64 0, .string ⟨#[]⟩, .int .i64 0, .int .i64 0] 26).alloc (.cells #[.int .u8 0, .int .i64 0, .string ⟨#[]⟩, .int .u8 0, .int .i64 0, .string ⟨#[]⟩, .int .i64 0, .int .i64 0] 26)
  have z2 : At ((w.alloc (.cells #[.int .u8 0, .int .i64 0, .string ⟨#[]⟩, .int .u8 0, .int .i64 0, .string ⟨#[]⟩, .int .i64 0, .int .i64 0] 26)).alloc (.cells #[.int .u8 0, .int .i64 0, .string ⟨#[]⟩, .int .u8 0, .int .i64 0, .string ⟨#[]⟩, .int .i64 0, .int .i64 0] 26)) (w.heap.size + 1) #[.int .u8 0, .int .i64 0, .string ⟨#[]⟩, .int .u8 0, .int .i64 0, .string ⟨#[]⟩, .int .i64 0, .int .i64 0] 26 := by simpa only [World.size_alloc, Nat.add_assoc, Nat.reduceAdd] using At.new (w.alloc (.cells #[.int .u8 0, .int .i64 0, .string ⟨#[]⟩, .int .u8 0, .int .i64 0, .string ⟨#[]⟩, .int .i64 0, .int .i64 0] 26)) #[.int .u8 0, .int .i64 0, .string ⟨#[]⟩, .int .u8 0, .int .i64 0, .string ⟨#[]⟩, .int .i64 0, .int .i64 0] 26
  have BB : Below w.heap.size w ((w.alloc (.cells #[.int .u8 0, .int .i64 0, .string ⟨#[]⟩, .int .u8 0, .int .i64 0, .string ⟨#[]⟩, .int .i64 0, .int .i64 0] 26)).alloc (.cells #[.int .u8 0, .int .i64 0, .string ⟨#[]⟩, .int .u8 0, .int .i64 0, .string ⟨#[]⟩, .int .i64 0, .int .i64 0] 26)) := Below.alloc (Below.alloc (Below.refl w.heap.size w) (by (try simp only [World.size_alloc]) <;> omega) (.cells #[.int .u8 0, .int .i64 0, .string ⟨#[]⟩, .int .u8 0, .int .i64 0, .string ⟨#[]⟩, .int .i64 0, .int .i64 0] 26)) (by (try simp only [World.size_alloc]) <;> omega) (.cells #[.int .u8 0, .int .i64 0, .string ⟨#[]⟩, .int .u8 0, .int .i64 0, .string ⟨#[]⟩, .int .i64 0, .int .i64 0] 26)
  go_loopw [4, 5] (fun i p wr => ∃ (j : Nat) (z : Zn), j ≤ m ∧ i = .int .i64 (j : Int) ∧ Hid (z = ofZ (l.take j)) ∧ At wr w.heap.size #[.int .u8 0, .int .i64 0, .string ⟨#[]⟩, .int .u8 0, .int .i64 0, .string ⟨#[]⟩, .int .i64 0, .int .i64 0] 26 ∧ At wr (w.heap.size + 1) #[.int .u8 z.lo.k, .int .i64 z.lo.n, .string z.lo.s, .int .u8 z.hi.k, .int .i64 z.hi.n, .string z.hi.s, .int .i64 z.nulls, .int .i64 z.many] 26 ∧ Below w.heap.size w wr) (fun i _ _ => m - (intOf i).toNat)
  case atStart => exact ⟨0, Zn.zero, Nat.zero_le _, rfl, Lib.hid rfl, z1, z2, BB⟩
  case round =>
    clear z1 z2 BB
    obtain ⟨j, z, hj, rfl, HZ, z1, z2, BB⟩ := hrel
    by_cases hlt : j < m
    · have hjl : j < l.length := by have := HM.out; omega
      obtain ⟨b, o, rfl⟩ := hc.addr (by rw [vcells_length]; omega)
      have hc2 := hc.mono BB (Nat.le_refl _)
      obtain ⟨x0, x1, x2⟩ := hc2.vat hjl
      have ht : ofZ (l.take (j + 1)) = mergeZ z (oneZ l[j]) := by rw [List.take_succ_eq_append_getElem hjl, ofZ_snoc, HZ.out]
      generalize l[j] = v at x0 x1 x2 ht
      have HO := Lib.hid (fun w => one_any v w)
      have HG := Lib.hid (fun w => rmerge_any z (oneZ v) w)
      have hone : (if v.k = 0 then ⟨V.zero, V.zero, 1, 1⟩ else ⟨v, v, 0, 1⟩) = oneZ v := rfl
      generalize mergeZ z (oneZ v) = y at HG ht
      generalize oneZ v = u at HO HG hone
      have HT := Lib.hid ht
      have HU := Lib.hid hone
      clear ht hjl hc2 hone
      obtain ⟨k, n, s⟩ := v
      obtain ⟨⟨k2, n2, s2⟩, ⟨k3, n3, s3⟩, nu, ma⟩ := z
      obtain ⟨⟨k4, n4, s4⟩, ⟨k5, n5, s5⟩, nu2, ma2⟩ := u
      obtain ⟨⟨k6, n6, s6⟩, ⟨k7, n7, s7⟩, nu3, ma3⟩ := y
      simp only [V.val, Zn.val] at HO HG x0 x1 x2 z2
      go_wp2_with (first | (at_make; refine Stop.un ?_) | (at_builtin; refine Stop.un ?_) | (with_reducible refine Stop.conv 40 9 ?_) | (with_reducible refine Stop.conv 9 40 ?_))
      have hzl := z2.lt
      have hb0 : b < wr.heap.size := lt_cell x0
      have HSZ : Hid (wr.heap.size ≤ wr.heap.size) := Lib.hid (Nat.le_refl _)
      refine mix_startX (wr.heap.size) none 11 rfl (by kernel_rfl) ?_
      intro xq hxq
      replace x0 := Ext.cell hxq x0
      replace x1 := Ext.cell hxq x1
      replace x2 := Ext.cell hxq x2
      replace z1 := At.mono z1 hxq
      replace z2 := At.mono z2 hxq
      replace BB := Below.next BB hxq
      replace HSZ := Lib.hid (Nat.le_trans (Hid.out HSZ) (Below.size hxq))
      clear hxq
      refine mix_quiet (Keeps.rx (wr.heap.size) none) 0 rfl (by kernel_rfl) rfl ?_
      intro ι U hne hU
      go_big_quiet_op
      clear hU hne U ι
      show wpAnyM _ _ _ _ _ _ _ _ _
      refine mix_quiet (Keeps.rx (wr.heap.size) none) 1 rfl (by kernel_rfl) rfl ?_
      intro ι U hne hU
      go_big_quiet_op
      clear hU hne U ι
      show wpAnyM _ _ _ _ _ _ _ _ _
      refine mix_quiet (Keeps.rx (wr.heap.size) none) 2 rfl (by kernel_rfl) rfl ?_
      intro ι U hne hU
      go_big_quiet_op
      clear hU hne U ι
      show wpAnyM _ _ _ _ _ _ _ _ _
      refine mix_quiet (Keeps.rx (wr.heap.size) none) 3 rfl (by kernel_rfl) rfl ?_
      intro ι U hne hU
      have hcw0 := fun ii => (RX.cell (hU ii) (by exact hb0) (by simp) x0)
      have hcw1 := fun ii => (RX.cell (hU ii) (by exact hb0) (by simp) x1)
      have hcw2 := fun ii => (RX.cell (hU ii) (by exact hb0) (by simp) x2)
      go_big_quiet_op
      clear hU hne hcw0 hcw1 hcw2 U ι
      show wpAnyM _ _ _ _ _ _ _ _ _
      refine mix_quiet (Keeps.rx (wr.heap.size) none) 4 rfl (by kernel_rfl) rfl ?_
      intro ι U hne hU
      go_big_quiet_op
      clear hU hne U ι
      show wpAnyM _ _ _ _ _ _ _ _ _
      refine mix_quiet (Keeps.rx (wr.heap.size) none) 5 rfl (by kernel_rfl) rfl ?_
      intro ι U hne hU
      go_big_quiet_op
      clear hU hne U ι
      show wpAnyM _ _ _ _ _ _ _ _ _
      refine mix_quiet (Keeps.rx (wr.heap.size) none) 6 rfl (by kernel_rfl) rfl ?_
      intro ι U hne hU
      go_big_quiet_op
      clear hU hne U ι
      show wpAnyM _ _ _ _ _ _ _ _ _
      refine mix_quiet (Keeps.rx (wr.heap.size) none) 7 rfl (by kernel_rfl) rfl ?_
      intro ι U hne hU
      have hcw0 := fun ii => (RX.cell (hU ii) (by exact hb0) (by simp) x0)
      have hcw1 := fun ii => (RX.cell (hU ii) (by exact hb0) (by simp) x1)
      have hcw2 := fun ii => (RX.cell (hU ii) (by exact hb0) (by simp) x2)
      go_big_quiet_op
      clear hU hne hcw0 hcw1 hcw2 U ι
      show wpAnyM _ _ _ _ _ _ _ _ _
      refine mix_quiet (Keeps.rx (wr.heap.size) none) 8 rfl (by kernel_rfl) rfl ?_
      intro ι U hne hU
      go_big_quiet_op
      clear hU hne U ι
      show wpAnyM _ _ _ _ _ _ _ _ _
      refine mix_any 9 rfl (by kernel_rfl) rfl ?_
      go_wp2_with (first | (at_make; refine Stop.un ?_) | (at_builtin; refine Stop.un ?_) | (with_reducible refine Stop.conv 40 9 ?_) | (with_reducible refine Stop.conv 9 40 ?_))
      have HX0 := HSZ.out
      have bq := (Below.refl xq.heap.size xq).alloc (Nat.le_refl _) (.cells #[.int .u8 0, .int .i64 0, .string ⟨#[]⟩, .int .u8 0, .int .i64 0, .string ⟨#[]⟩, .int .i64 0, .int .i64 0] 26)
      refine MixPost.mk (RX.ext bq HX0) ?_
      clear bq
      refine mix_any 10 rfl (by kernel_rfl) rfl ?_
      go_wp2_with (first | (at_make; refine Stop.un ?_) | (at_builtin; refine Stop.un ?_) | (with_reducible refine Stop.conv 40 9 ?_) | (with_reducible refine Stop.conv 9 40 ?_))
      refine MixPost.mk (RX.realloc HX0 _ _) ?_
      have zf := At.new xq #[.int .u8 k, .int .i64 n, .string s, .int .u8 k, .int .i64 n, .string s, .int .i64 0, .int .i64 1] 26
      have bq := (Below.refl xq.heap.size xq).alloc (Nat.le_refl _) (.cells #[.int .u8 k, .int .i64 n, .string s, .int .u8 k, .int .i64 n, .string s, .int .i64 0, .int .i64 1] 26)
      replace x0 := Ext.cell bq x0
      replace x1 := Ext.cell bq x1
      replace x2 := Ext.cell bq x2
      replace z1 := At.mono z1 bq
      replace z2 := At.mono z2 bq
      replace BB := Below.next BB bq
      replace HSZ := Lib.hid (Nat.le_trans (Hid.out HSZ) (Below.size bq))
      clear bq
      refine mix_end (by kernel_rfl) ?_
      generalize xq.alloc (.cells #[.int .u8 k, .int .i64 n, .string s, .int .u8 k, .int .i64 n, .string s, .int .i64 0, .int .i64 1] 26) = wq at x0 x1 x2 z1 z2 zf BB ⊢
      have hu := HU.out
      clear HU HSZ
      try simp only at hu
      by_cases hk : k = 0
      ·
        rw [if_pos hk] at hu
        simp only [Zn.mk.injEq, V.mk.injEq, V.zero] at hu
        obtain ⟨⟨h1, h2, h3⟩, ⟨h4, h5, h6⟩, h7, h8⟩ := hu
        subst h1 h2 h3 h4 h5 h6 h7 h8
        have hk2 : (k == 0) = true := by simpa using hk
        clear hk
        have f0 := zf.cell 0 rfl
        have ff0 := zf.free 0
        have f1 := zf.cell 1 rfl
        have ff1 := zf.free 1
        have f2 := zf.cell 2 rfl
        have ff2 := zf.free 2
        have f3 := zf.cell 3 rfl
        have ff3 := zf.free 3
        have f4 := zf.cell 4 rfl
        have ff4 := zf.free 4
        have f5 := zf.cell 5 rfl
        have ff5 := zf.free 5
        have f6 := zf.cell 6 rfl
        have ff6 := zf.free 6
        have f7 := zf.cell 7 rfl
        have ff7 := zf.free 7
        have fl := zf.lt
        have zf2 := zf.set8 (.int .u8 0) (.int .i64 0) (.string ⟨#[]⟩) (.int .u8 0) (.int .i64 0) (.string ⟨#[]⟩) (.int .i64 1) (.int .i64 1)
        have z12 := z1.off8 (g := xq.heap.size) (.int .u8 0) (.int .i64 0) (.string ⟨#[]⟩) (.int .u8 0) (.int .i64 0) (.string ⟨#[]⟩) (.int .i64 1) (.int .i64 1) (by omega)
        have z22 := z2.off8 (g := xq.heap.size) (.int .u8 0) (.int .i64 0) (.string ⟨#[]⟩) (.int .u8 0) (.int .i64 0) (.string ⟨#[]⟩) (.int .i64 1) (.int .i64 1) (by omega)
        have BB2 := below_set8 (g := xq.heap.size) BB (.int .u8 0) (.int .i64 0) (.string ⟨#[]⟩) (.int .u8 0) (.int .i64 0) (.string ⟨#[]⟩) (.int .i64 1) (.int .i64 1) (by omega)
        have d0 := zf2.cell 0 rfl
        have d1 := zf2.cell 1 rfl
        have d2 := zf2.cell 2 rfl
        have d3 := zf2.cell 3 rfl
        have d4 := zf2.cell 4 rfl
        have d5 := zf2.cell 5 rfl
        have d6 := zf2.cell 6 rfl
        have d7 := zf2.cell 7 rfl
        have dl := zf2.lt
        have y0 := z22.cell 0 rfl
        have y1 := z22.cell 1 rfl
        have y2 := z22.cell 2 rfl
        have y3 := z22.cell 3 rfl
        have y4 := z22.cell 4 rfl
        have y5 := z22.cell 5 rfl
        have y6 := z22.cell 6 rfl
        have y7 := z22.cell 7 rfl
        have yl := z22.lt
        go_wp2_with (first | (at_make; refine Stop.un ?_) | (at_builtin; refine Stop.un ?_) | (with_reducible refine Stop.conv 40 9 ?_) | (with_reducible refine Stop.conv 9 40 ?_))
        refine (HG.out _).mono ?_
        rintro e w9 ⟨rfl, b9⟩
        replace z12 := At.mono z12 b9
        replace z22 := At.mono z22 b9
        replace BB2 := Below.next BB2 b9
        clear b9
        have g0 := z22.cell 0 rfl
        have gf0 := z22.free 0
        have g1 := z22.cell 1 rfl
        have gf1 := z22.free 1
        have g2 := z22.cell 2 rfl
        have gf2 := z22.free 2
        have g3 := z22.cell 3 rfl
        have gf3 := z22.free 3
        have g4 := z22.cell 4 rfl
        have gf4 := z22.free 4
        have g5 := z22.cell 5 rfl
        have gf5 := z22.free 5
        have g6 := z22.cell 6 rfl
        have gf6 := z22.free 6
        have g7 := z22.cell 7 rfl
        have gf7 := z22.free 7
        have gl := z22.lt
        go_wp2_with (first | (at_make; refine Stop.un ?_) | (at_builtin; refine Stop.un ?_) | (with_reducible refine Stop.conv 40 9 ?_) | (with_reducible refine Stop.conv 9 40 ?_))
        go_roundw
        case rel => exact ⟨j + 1, ⟨⟨k6, n6, s6⟩, ⟨k7, n7, s7⟩, nu3, ma3⟩, by omega, by go_num, Lib.hid HT.out.symm, z12.off8 _ _ _ _ _ _ _ _  (by omega), z22.set8 (.int .u8 k6) (.int .i64 n6) (.string s6) (.int .u8 k7) (.int .i64 n7) (.string s7) (.int .i64 nu3) (.int .i64 ma3), below_set8 BB2 _ _ _ _ _ _ _ _  (by omega)⟩
        case measure => simp [intOf]; omega
      ·
        rw [if_neg hk] at hu
        simp only [Zn.mk.injEq, V.mk.injEq, V.zero] at hu
        obtain ⟨⟨h1, h2, h3⟩, ⟨h4, h5, h6⟩, h7, h8⟩ := hu
        subst h1 h2 h3 h4 h5 h6 h7 h8
        have hk2 : (k == 0) = false := by simpa using hk
        have zf2 := zf
        have z12 := z1
        have z22 := z2
        have BB2 := BB
        have d0 := zf2.cell 0 rfl
        have d1 := zf2.cell 1 rfl
        have d2 := zf2.cell 2 rfl
        have d3 := zf2.cell 3 rfl
        have d4 := zf2.cell 4 rfl
        have d5 := zf2.cell 5 rfl
        have d6 := zf2.cell 6 rfl
        have d7 := zf2.cell 7 rfl
        have dl := zf2.lt
        have y0 := z22.cell 0 rfl
        have y1 := z22.cell 1 rfl
        have y2 := z22.cell 2 rfl
        have y3 := z22.cell 3 rfl
        have y4 := z22.cell 4 rfl
        have y5 := z22.cell 5 rfl
        have y6 := z22.cell 6 rfl
        have y7 := z22.cell 7 rfl
        have yl := z22.lt
        go_wp2_with (first | (at_make; refine Stop.un ?_) | (at_builtin; refine Stop.un ?_) | (with_reducible refine Stop.conv 40 9 ?_) | (with_reducible refine Stop.conv 9 40 ?_))
        refine (HG.out _).mono ?_
        rintro e w9 ⟨rfl, b9⟩
        replace z12 := At.mono z12 b9
        replace z22 := At.mono z22 b9
        replace BB2 := Below.next BB2 b9
        clear b9
        have g0 := z22.cell 0 rfl
        have gf0 := z22.free 0
        have g1 := z22.cell 1 rfl
        have gf1 := z22.free 1
        have g2 := z22.cell 2 rfl
        have gf2 := z22.free 2
        have g3 := z22.cell 3 rfl
        have gf3 := z22.free 3
        have g4 := z22.cell 4 rfl
        have gf4 := z22.free 4
        have g5 := z22.cell 5 rfl
        have gf5 := z22.free 5
        have g6 := z22.cell 6 rfl
        have gf6 := z22.free 6
        have g7 := z22.cell 7 rfl
        have gf7 := z22.free 7
        have gl := z22.lt
        go_wp2_with (first | (at_make; refine Stop.un ?_) | (at_builtin; refine Stop.un ?_) | (with_reducible refine Stop.conv 40 9 ?_) | (with_reducible refine Stop.conv 9 40 ?_))
        go_roundw
        case rel => exact ⟨j + 1, ⟨⟨k6, n6, s6⟩, ⟨k7, n7, s7⟩, nu3, ma3⟩, by omega, by go_num, Lib.hid HT.out.symm, z12.off8 _ _ _ _ _ _ _ _  (by omega), z22.set8 (.int .u8 k6) (.int .i64 n6) (.string s6) (.int .u8 k7) (.int .i64 n7) (.string s7) (.int .i64 nu3) (.int .i64 ma3), below_set8 BB2 _ _ _ _ _ _ _ _  (by omega)⟩
        case measure => simp [intOf]; omega

    · have hz := HZ.out
      rw [List.take_of_length_le (by have := HM.out; omega), HZL.out] at hz
      clear HZ HZL
      obtain ⟨⟨k2, n2, s2⟩, ⟨k3, n3, s3⟩, nu, ma⟩ := z
      simp only [Zn.mk.injEq, V.mk.injEq] at hz
      obtain ⟨⟨rfl, rfl, rfl⟩, ⟨rfl, rfl, rfl⟩, rfl, rfl⟩ := hz
      simp only at z2
      have u0 := z1.cell 0 rfl
      have uf0 := z1.free 0
      have u1 := z1.cell 1 rfl
      have uf1 := z1.free 1
      have u2 := z1.cell 2 rfl
      have uf2 := z1.free 2
      have u3 := z1.cell 3 rfl
      have uf3 := z1.free 3
      have u4 := z1.cell 4 rfl
      have uf4 := z1.free 4
      have u5 := z1.cell 5 rfl
      have uf5 := z1.free 5
      have u6 := z1.cell 6 rfl
      have uf6 := z1.free 6
      have u7 := z1.cell 7 rfl
      have uf7 := z1.free 7
      have ul := z1.lt
      have y0 := z2.cell 0 rfl
      have y1 := z2.cell 1 rfl
      have y2 := z2.cell 2 rfl
      have y3 := z2.cell 3 rfl
      have y4 := z2.cell 4 rfl
      have y5 := z2.cell 5 rfl
      have y6 := z2.cell 6 rfl
      have y7 := z2.cell 7 rfl
      have yl := z2.lt
      go_wp2_with (first | (at_make; refine Stop.un ?_) | (at_builtin; refine Stop.un ?_) | (with_reducible refine Stop.conv 40 9 ?_) | (with_reducible refine Stop.conv 9 40 ?_))
      have RQ := z1.set8 (.int .u8 k2) (.int .i64 n2) (.string s2) (.int .u8 k3) (.int .i64 n3) (.string s3) (.int .i64 nu) (.int .i64 ma)
      have rq0 := RQ.cell 0 rfl
      have rq1 := RQ.cell 1 rfl
      have rq2 := RQ.cell 2 rfl
      have rq3 := RQ.cell 3 rfl
      have rq4 := RQ.cell 4 rfl
      have rq5 := RQ.cell 5 rfl
      have rq6 := RQ.cell 6 rfl
      have rq7 := RQ.cell 7 rfl
      have rql := RQ.lt
      exact bodyPost_ret (v := .agg #[.int .u8 k2, .int .i64 n2, .string s2, .int .u8 k3, .int .i64 n3, .string s3, .int .i64 nu, .int .i64 ma]) (by simp [results, Try.results13, go_sem, rq0, rq1, rq2, rq3, rq4, rq5, rq6, rq7]) rfl ⟨rfl, below_set8 BB _ _ _ _ _ _ _ _  (by omega)⟩
end Go.Proofs.Ytdpmaocbfmgmlaa
