/- How two rows stand to each other by keys. -/
import Derived.Test.YtbiniecjenencaaRCmp
set_option linter.unusedVariables false
set_option linter.unusedSimpArgs false
set_option maxRecDepth 10000
namespace Go.Proofs.Ytbiniecjenencaa
open Go.RowKit
set_option maxRecDepth 100000 in
set_option maxHeartbeats 4000000 in
theorem ocompare_any (a1 : Option Addr) (n1 c1 : Nat) (l1 : List V) (a2 : Option Addr) (n2 c2 : Nat) (l2 : List V) (ak : Option Addr) (p ck : Nat) (ks : List Ky) (w : World)
    (h1 : RowOk w ⟨a1, n1, c1, l1⟩) (h2 : RowOk w ⟨a2, n2, c2, l2⟩) (hk : Cs w ak (kcells ks)) (hp : ks.length = p) (hlp : p ≤ ck) (hcm : ck ≤ maxLen) :
    Calls Try.prog 27 #[.slice a1 n1 c1, .slice a2 n2 c2, .slice ak p ck] w (fun e w' => e = .returned (.int .i64 (cmpR l1 l2 ks)) ∧ Below w.heap.size w w') := by
  unfold maxLen at hcm
  have HP := Lib.hid hp
  clear hp
  have HA1 := Lib.hid (fun col w h => oat_any a1 n1 c1 l1 col w h)
  have HA2 := Lib.hid (fun col w h => oat_any a2 n2 c2 l2 col w h)
  have HSN := Lib.hid (cmpR_snoc l1 l2 ks)
  have HAT := Lib.hid (cmpR_at l1 l2 ks)
  have HEN : Hid (cmpR l1 l2 (ks.take p) = 0 → cmpR l1 l2 ks = 0) := Lib.hid (fun h => by rwa [List.take_of_length_le (by rw [HP.out]; omega)] at h)
  have HZ : Hid (cmpR l1 l2 (ks.take 0) = 0) := Lib.hid rfl
  generalize cmpR l1 l2 ks = R at HAT HEN ⊢
  generalize cmpR l1 l2 = C at HSN HAT HEN HZ
  go_enter Try.func27, Try.ntmps27
  go_wp2_with (first | (at_make; refine Stop.un ?_) | (at_builtin; refine Stop.un ?_) | (with_reducible refine Stop.conv 22 9 ?_) | (with_reducible refine Stop.conv 9 22 ?_))
  go_loopw [12] (fun c wr => ∃ j : Nat, j ≤ p ∧ c = .int .i64 (j : Int) ∧ Below w.heap.size w wr ∧ Hid (C (ks.take j) = 0)) (fun c _ => p - (intOf c).toNat)
  case atStart => exact ⟨0, Nat.zero_le _, rfl, Below.refl _ _, HZ⟩
  case round =>
    clear HZ
    obtain ⟨j, hj, rfl, BB, HC⟩ := hrel
    by_cases hlt : j < p
    · have hjl : j < ks.length := by have := HP.out; omega
      have hk2 := hk.mono BB (Nat.le_refl _)
      obtain ⟨b, o, rfl⟩ := hk2.addr (by rw [kcells_length]; omega)
      obtain ⟨x0, x1⟩ := hk2.kat hjl
      have hsn := HSN.out j hjl HC.out
      have hat := HAT.out j hjl HC.out
      have r1 := h1.mono BB
      have r2 := h2.mono BB
      generalize ks[j] = ky at x0 x1 hsn hat
      obtain ⟨col, down⟩ := ky
      simp only at x0 x1 hsn hat
      have HO := Lib.hid (fun w => oone_any (atV l1 col) (atV l2 col) down w)
      have hrg := oneC_range (atV l1 col) (atV l2 col) down
      have HB1 := Lib.hid (HA1.out col)
      have HB2 := Lib.hid (HA2.out col)
      generalize oneC (atV l1 col) (atV l2 col) down = c at HO hsn hat hrg
      generalize atV l1 col = u1 at HO HB1
      generalize atV l2 col = u2 at HO HB2
      obtain ⟨k, n, s⟩ := u1
      obtain ⟨k', n', s'⟩ := u2
      simp only [V.val] at HO HB1 HB2
      have HSN2 := Lib.hid hsn
      have HAT2 := Lib.hid hat
      clear hsn hat hjl hk2
      go_upto_region 4 with fail
      have z8 := At.new wr #[.int .i64 col, .bool down] 59
      have bz := (Below.refl wr.heap.size wr).alloc (Nat.le_refl _) (.cells #[.int .i64 col, .bool down] 59)
      replace BB := Below.next BB bz
      replace r1 := RowOk.mono r1 bz
      replace r2 := RowOk.mono r2 bz
      clear bz x0 x1
      generalize wr.alloc (.cells #[.int .i64 col, .bool down] 59) = w3 at z8 BB r1 r2 ⊢
      generalize wr.heap.size = h8 at z8 ⊢
      refine mix_startE 12 rfl (by kernel_rfl) ?_
      intro xq hxq
      replace BB := Below.next BB hxq
      replace r1 := RowOk.mono r1 hxq
      replace r2 := RowOk.mono r2 hxq
      replace z8 := At.mono z8 hxq
      clear hxq
      refine mix_quiet Keeps.ext 0 rfl (by kernel_rfl) rfl ?_
      intro ι U hne hU
      go_big_quiet_op
      clear hU hne U ι
      show wpAnyM _ _ _ _ _ _ _ _ _
      refine mix_quiet Keeps.ext 1 rfl (by kernel_rfl) rfl ?_
      intro ι U hne hU
      go_big_quiet_op
      clear hU hne U ι
      show wpAnyM _ _ _ _ _ _ _ _ _
      refine mix_quiet Keeps.ext 2 rfl (by kernel_rfl) rfl ?_
      intro ι U hne hU
      have hcw0 := fun ii => (At.mono z8 (hU ii)).cell 0 rfl
      have hcw1 := fun ii => (At.mono z8 (hU ii)).cell 1 rfl
      go_big_quiet_op
      clear hU hne hcw0 hcw1 U ι
      show wpAnyM _ _ _ _ _ _ _ _ _
      refine mix_quiet Keeps.ext 4 rfl (by kernel_rfl) rfl ?_
      intro ι U hne hU
      go_big_quiet_op
      clear hU hne U ι
      show wpAnyM _ _ _ _ _ _ _ _ _
      refine mix_quiet Keeps.ext 5 rfl (by kernel_rfl) rfl ?_
      intro ι U hne hU
      go_big_quiet_op
      clear hU hne U ι
      show wpAnyM _ _ _ _ _ _ _ _ _
      refine mix_quiet Keeps.ext 6 rfl (by kernel_rfl) rfl ?_
      intro ι U hne hU
      have hcw0 := fun ii => (At.mono z8 (hU ii)).cell 0 rfl
      have hcw1 := fun ii => (At.mono z8 (hU ii)).cell 1 rfl
      go_big_quiet_op
      clear hU hne hcw0 hcw1 U ι
      show wpAnyM _ _ _ _ _ _ _ _ _
      refine mix_quiet Keeps.ext 8 rfl (by kernel_rfl) rfl ?_
      intro ι U hne hU
      go_big_quiet_op
      clear hU hne U ι
      show wpAnyM _ _ _ _ _ _ _ _ _
      refine mix_quiet Keeps.ext 9 rfl (by kernel_rfl) rfl ?_
      intro ι U hne hU
      have hcw0 := fun ii => (At.mono z8 (hU ii)).cell 0 rfl
      have hcw1 := fun ii => (At.mono z8 (hU ii)).cell 1 rfl
      go_big_quiet_op
      clear hU hne hcw0 hcw1 U ι
      show wpAnyM _ _ _ _ _ _ _ _ _
      refine mix_any 3 rfl (by kernel_rfl) rfl ?_
      go_wp2_with (first | (at_make; refine Stop.un ?_) | (at_builtin; refine Stop.un ?_) | (with_reducible refine Stop.conv 22 9 ?_) | (with_reducible refine Stop.conv 9 22 ?_))
      refine (HB1.out _ r1).mono ?_
      rintro e wq1 ⟨rfl, bq1⟩
      go_wp2_with (first | (at_make; refine Stop.un ?_) | (at_builtin; refine Stop.un ?_) | (with_reducible refine Stop.conv 22 9 ?_) | (with_reducible refine Stop.conv 9 22 ?_))
      refine MixPost.mk bq1 ?_
      replace BB := Below.next BB bq1
      replace r1 := RowOk.mono r1 bq1
      replace r2 := RowOk.mono r2 bq1
      replace z8 := At.mono z8 bq1
      clear bq1
      refine mix_any 7 rfl (by kernel_rfl) rfl ?_
      go_wp2_with (first | (at_make; refine Stop.un ?_) | (at_builtin; refine Stop.un ?_) | (with_reducible refine Stop.conv 22 9 ?_) | (with_reducible refine Stop.conv 9 22 ?_))
      refine (HB2.out _ r2).mono ?_
      rintro e wq2 ⟨rfl, bq2⟩
      go_wp2_with (first | (at_make; refine Stop.un ?_) | (at_builtin; refine Stop.un ?_) | (with_reducible refine Stop.conv 22 9 ?_) | (with_reducible refine Stop.conv 9 22 ?_))
      refine MixPost.mk bq2 ?_
      replace BB := Below.next BB bq2
      replace r1 := RowOk.mono r1 bq2
      replace r2 := RowOk.mono r2 bq2
      replace z8 := At.mono z8 bq2
      clear bq2
      refine mix_any 10 rfl (by kernel_rfl) rfl ?_
      go_wp2_with (first | (at_make; refine Stop.un ?_) | (at_builtin; refine Stop.un ?_) | (with_reducible refine Stop.conv 22 9 ?_) | (with_reducible refine Stop.conv 9 22 ?_))
      refine (HO.out _).mono ?_
      rintro e wq3 ⟨rfl, bq3⟩
      go_wp2_with (first | (at_make; refine Stop.un ?_) | (at_builtin; refine Stop.un ?_) | (with_reducible refine Stop.conv 22 9 ?_) | (with_reducible refine Stop.conv 9 22 ?_))
      refine MixPost.mk bq3 ?_
      replace BB := Below.next BB bq3
      replace r1 := RowOk.mono r1 bq3
      replace r2 := RowOk.mono r2 bq3
      replace z8 := At.mono z8 bq3
      clear bq3
      refine mix_quiet Keeps.ext 11 rfl (by kernel_rfl) rfl ?_
      intro ι U hne hU
      go_big_quiet_op
      clear hU hne U ι
      show wpAnyM _ _ _ _ _ _ _ _ _
      refine mix_end (by kernel_rfl) ?_
      clear z8 r1 r2 HO HB1 HB2
      by_cases hc0 : c = 0
      ·
        have H2 := Lib.hid (HSN2.out hc0)
        have hc1 : (c != 0) = false := by simpa using hc0
        clear hc0 HSN2 HAT2 hrg HC
        go_wp2_with (first | (at_make; refine Stop.un ?_) | (at_builtin; refine Stop.un ?_) | (with_reducible refine Stop.conv 22 9 ?_) | (with_reducible refine Stop.conv 9 22 ?_))
        go_roundw
        case rel => exact ⟨j + 1, by omega, by go_num, BB, H2⟩
        case measure => simp [intOf]; omega
      ·
        have H2 := Lib.hid (HAT2.out hc0)
        have hc1 : (c != 0) = true := by simpa using hc0
        clear hc0 HSN2 HAT2 hrg HC
        go_wp2_with (first | (at_make; refine Stop.un ?_) | (at_builtin; refine Stop.un ?_) | (with_reducible refine Stop.conv 22 9 ?_) | (with_reducible refine Stop.conv 9 22 ?_))
        go_ret
        exact ⟨by rw [H2.out]; rfl, BB⟩
    · have hjp : j = p := by omega
      subst hjp
      have H2 := Lib.hid (HEN.out HC.out)
      clear HC HEN hlt hj HSN HAT
      go_wp2_with (first | (at_make; refine Stop.un ?_) | (at_builtin; refine Stop.un ?_) | (with_reducible refine Stop.conv 22 9 ?_) | (with_reducible refine Stop.conv 9 22 ?_))
      go_ret
      exact ⟨by rw [H2.out]; rfl, BB⟩
set_option maxRecDepth 100000 in
set_option maxHeartbeats 4000000 in
theorem orcompare_any (a1 : Option Addr) (n1 c1 : Nat) (l1 : List V) (a2 : Option Addr) (n2 c2 : Nat) (l2 : List V) (ak : Option Addr) (p ck : Nat) (ks : List Ky) (w : World)
    (h1 : RowOk w ⟨a1, n1, c1, l1⟩) (h2 : RowOk w ⟨a2, n2, c2, l2⟩) (hk : Cs w ak (kcells ks)) (hp : ks.length = p) (hlp : p ≤ ck) (hcm : ck ≤ maxLen) :
    Calls Try.prog 49 #[.slice a1 n1 c1, .slice a2 n2 c2, .slice ak p ck] w (fun e w' => e = .returned (.int .i64 (cmpR l1 l2 ks)) ∧ Below w.heap.size w w') := by
  unfold maxLen at hcm
  have HP := Lib.hid hp
  clear hp
  have HA1 := Lib.hid (fun col w h => rat_any a1 n1 c1 l1 col w h)
  have HA2 := Lib.hid (fun col w h => rat_any a2 n2 c2 l2 col w h)
  have HSN := Lib.hid (cmpR_snoc l1 l2 ks)
  have HAT := Lib.hid (cmpR_at l1 l2 ks)
  have HEN : Hid (cmpR l1 l2 (ks.take p) = 0 → cmpR l1 l2 ks = 0) := Lib.hid (fun h => by rwa [List.take_of_length_le (by rw [HP.out]; omega)] at h)
  have HZ : Hid (cmpR l1 l2 (ks.take 0) = 0) := Lib.hid rfl
  have HK1 := Lib.hid (atV_kind h1.kind)
  have HK2 := Lib.hid (atV_kind h2.kind)
  simp only at HK1 HK2
  generalize cmpR l1 l2 ks = R at HAT HEN ⊢
  generalize cmpR l1 l2 = C at HSN HAT HEN HZ
  go_enter Try.func49, Try.ntmps49
  go_wp2_with (first | (at_make; refine Stop.un ?_) | (at_builtin; refine Stop.un ?_) | (with_reducible refine Stop.conv 22 9 ?_) | (with_reducible refine Stop.conv 9 22 ?_))
  go_loopw [7] (fun c wr => ∃ j : Nat, j ≤ p ∧ c = .int .i64 (j : Int) ∧ Below w.heap.size w wr ∧ Hid (C (ks.take j) = 0)) (fun c _ => p - (intOf c).toNat)
  case atStart => exact ⟨0, Nat.zero_le _, rfl, Below.refl _ _, HZ⟩
  case round =>
    clear HZ
    obtain ⟨j, hj, rfl, BB, HC⟩ := hrel
    by_cases hlt : j < p
    · have hjl : j < ks.length := by have := HP.out; omega
      have hk2 := hk.mono BB (Nat.le_refl _)
      obtain ⟨b, o, rfl⟩ := hk2.addr (by rw [kcells_length]; omega)
      obtain ⟨x0, x1⟩ := hk2.kat hjl
      have hsn := HSN.out j hjl HC.out
      have hat := HAT.out j hjl HC.out
      have r1 := h1.mono BB
      have r2 := h2.mono BB
      generalize ks[j] = ky at x0 x1 hsn hat
      obtain ⟨col, down⟩ := ky
      simp only at x0 x1 hsn hat
      have HO := Lib.hid (fun w => rcompare_any (nrmV (atV l1 col)) (nrmV (atV l2 col)) w)
      have hrg := cmpV_range (nrmV (atV l1 col)) (nrmV (atV l2 col))
      have HE : Hid (oneR (nrmV (atV l1 col)) (nrmV (atV l2 col)) down = oneC (atV l1 col) (atV l2 col) down) := Lib.hid (oneR_eq (HK1.out col) (HK2.out col) down)
      have HB1 := Lib.hid (HA1.out col)
      have HB2 := Lib.hid (HA2.out col)
      generalize oneC (atV l1 col) (atV l2 col) down = c at HE hsn hat
      unfold oneR at HE
      generalize nrmV (atV l1 col) = u1 at HO HB1 HE hrg
      generalize nrmV (atV l2 col) = u2 at HO HB2 HE hrg
      generalize cmpV u1 u2 = c0 at HO HE hrg
      obtain ⟨k, n, s⟩ := u1
      obtain ⟨k', n', s'⟩ := u2
      simp only [V.val] at HO HB1 HB2 HE
      have HSN2 := Lib.hid hsn
      have HAT2 := Lib.hid hat
      have hc0lo : -1 ≤ c0 ∧ c0 ≤ 1 := by omega
      clear hsn hat hjl hk2 hrg
      go_wp2_with (first | (at_make; refine Stop.un ?_) | (at_builtin; refine Stop.un ?_) | (with_reducible refine Stop.conv 22 9 ?_) | (with_reducible refine Stop.conv 9 22 ?_))
      refine (HB1.out _ r1).mono ?_
      rintro e w2 ⟨rfl, bt⟩
      replace BB := Below.next BB bt
      replace r1 := RowOk.mono r1 bt
      replace r2 := RowOk.mono r2 bt
      replace x0 := Ext.cell bt x0
      replace x1 := Ext.cell bt x1
      clear bt r1
      go_upto_region 5 with fail
      have z2 := At.new w2 #[.int .u8 k, .int .i64 n, .string s] 38
      have bz := (Below.refl w2.heap.size w2).alloc (Nat.le_refl _) (.cells #[.int .u8 k, .int .i64 n, .string s] 38)
      replace BB := Below.next BB bz
      replace r2 := RowOk.mono r2 bz
      replace x0 := Ext.cell bz x0
      replace x1 := Ext.cell bz x1
      clear bz
      generalize w2.alloc (.cells #[.int .u8 k, .int .i64 n, .string s] 38) = y2 at BB r2 x0 x1 z2 ⊢
      generalize w2.heap.size = g2 at z2 ⊢
      go_wp2_with (first | (at_make; refine Stop.un ?_) | (at_builtin; refine Stop.un ?_) | (with_reducible refine Stop.conv 22 9 ?_) | (with_reducible refine Stop.conv 9 22 ?_))
      refine (HB2.out _ r2).mono ?_
      rintro e w3 ⟨rfl, bt⟩
      replace BB := Below.next BB bt
      replace r2 := RowOk.mono r2 bt
      replace x0 := Ext.cell bt x0
      replace x1 := Ext.cell bt x1
      replace z2 := At.mono z2 bt
      clear bt r2
      go_upto_region 6 with fail
      have z3 := At.new w3 #[.int .u8 k', .int .i64 n', .string s'] 38
      have bz := (Below.refl w3.heap.size w3).alloc (Nat.le_refl _) (.cells #[.int .u8 k', .int .i64 n', .string s'] 38)
      replace BB := Below.next BB bz
      replace x0 := Ext.cell bz x0
      replace x1 := Ext.cell bz x1
      replace z2 := At.mono z2 bz
      clear bz
      generalize w3.alloc (.cells #[.int .u8 k', .int .i64 n', .string s'] 38) = y3 at BB x0 x1 z2 z3 ⊢
      generalize w3.heap.size = g3 at z3 ⊢
      have t0 := z2.cell 0 rfl
      have t1 := z2.cell 1 rfl
      have t2 := z2.cell 2 rfl
      have tl := z2.lt
      have v0 := z3.cell 0 rfl
      have v1 := z3.cell 1 rfl
      have v2 := z3.cell 2 rfl
      have vl := z3.lt
      go_wp2_with (first | (at_make; refine Stop.un ?_) | (at_builtin; refine Stop.un ?_) | (with_reducible refine Stop.conv 22 9 ?_) | (with_reducible refine Stop.conv 9 22 ?_))
      refine (HO.out _).mono ?_
      rintro e w4 ⟨rfl, bt⟩
      clear t0 t1 t2 tl v0 v1 v2 vl
      replace BB := Below.next BB bt
      replace x0 := Ext.cell bt x0
      replace x1 := Ext.cell bt x1
      replace z2 := At.mono z2 bt
      replace z3 := At.mono z3 bt
      clear bt HB1 HB2 HO
      have t0 := z2.cell 0 rfl
      have t1 := z2.cell 1 rfl
      have t2 := z2.cell 2 rfl
      have tl := z2.lt
      have v0 := z3.cell 0 rfl
      have v1 := z3.cell 1 rfl
      have v2 := z3.cell 2 rfl
      have vl := z3.lt
      cases down with
      | false =>
        have e : c = c0 := by rw [← HE.out]; simp
        have HEC := Lib.hid e
        clear e HE
        by_cases hc0 : c = 0
        ·
          have H5 := Lib.hid (HSN2.out hc0)
          have hc1 : (c0 != 0) = false := by rw [← HEC.out]; simpa using hc0
          have hc2 := hc0
          rw [HEC.out] at hc2
          have HC2 := Lib.hid hc2
          clear hc0 hc2 HSN2 HAT2 HC HEC
          go_wp2_with (first | (at_make; refine Stop.un ?_) | (at_builtin; refine Stop.un ?_) | (with_reducible refine Stop.conv 22 9 ?_) | (with_reducible refine Stop.conv 9 22 ?_))
          go_roundw
          case rel => exact ⟨j + 1, by omega, by go_num, BB, H5⟩
          case measure => simp [intOf]; omega
        ·
          have H5 := Lib.hid (HAT2.out hc0)
          have hc1 : (c0 != 0) = true := by rw [← HEC.out]; simpa using hc0
          clear hc0 HSN2 HAT2 HC
          go_wp2_with (first | (at_make; refine Stop.un ?_) | (at_builtin; refine Stop.un ?_) | (with_reducible refine Stop.conv 22 9 ?_) | (with_reducible refine Stop.conv 9 22 ?_))
          go_ret
          exact ⟨by rw [H5.out, HEC.out]; rfl, BB⟩
      | true =>
        by_cases q1 : k = 0
        ·
          have e1 : (k != 0) = false := by simpa using q1
          have H1 := Lib.hid q1
          clear q1
          have e : c = c0 := by rw [← HE.out]; simp [H1.out]
          have HEC := Lib.hid e
          clear e HE
          by_cases hc0 : c = 0
          ·
            have H5 := Lib.hid (HSN2.out hc0)
            have hc1 : (c0 != 0) = false := by rw [← HEC.out]; simpa using hc0
            have hc2 := hc0
            rw [HEC.out] at hc2
            have HC2 := Lib.hid hc2
            clear hc0 hc2 HSN2 HAT2 HC HEC
            go_wp2_with (first | (at_make; refine Stop.un ?_) | (at_builtin; refine Stop.un ?_) | (with_reducible refine Stop.conv 22 9 ?_) | (with_reducible refine Stop.conv 9 22 ?_))
            go_roundw
            case rel => exact ⟨j + 1, by omega, by go_num, BB, H5⟩
            case measure => simp [intOf]; omega
          ·
            have H5 := Lib.hid (HAT2.out hc0)
            have hc1 : (c0 != 0) = true := by rw [← HEC.out]; simpa using hc0
            clear hc0 HSN2 HAT2 HC
            go_wp2_with (first | (at_make; refine Stop.un ?_) | (at_builtin; refine Stop.un ?_) | (with_reducible refine Stop.conv 22 9 ?_) | (with_reducible refine Stop.conv 9 22 ?_))
            go_ret
            exact ⟨by rw [H5.out, HEC.out]; rfl, BB⟩
        ·
          have e1 : (k != 0) = true := by simpa using q1
          have H1 := Lib.hid q1
          clear q1
          by_cases q2 : k' = 0
          ·
            have e2 : (k' != 0) = false := by simpa using q2
            have H2 := Lib.hid q2
            clear q2
            have e : c = c0 := by rw [← HE.out]; simp [H2.out]
            have HEC := Lib.hid e
            clear e HE
            by_cases hc0 : c = 0
            ·
              have H5 := Lib.hid (HSN2.out hc0)
              have hc1 : (c0 != 0) = false := by rw [← HEC.out]; simpa using hc0
              have hc2 := hc0
              rw [HEC.out] at hc2
              have HC2 := Lib.hid hc2
              clear hc0 hc2 HSN2 HAT2 HC HEC
              go_wp2_with (first | (at_make; refine Stop.un ?_) | (at_builtin; refine Stop.un ?_) | (with_reducible refine Stop.conv 22 9 ?_) | (with_reducible refine Stop.conv 9 22 ?_))
              go_roundw
              case rel => exact ⟨j + 1, by omega, by go_num, BB, H5⟩
              case measure => simp [intOf]; omega
            ·
              have H5 := Lib.hid (HAT2.out hc0)
              have hc1 : (c0 != 0) = true := by rw [← HEC.out]; simpa using hc0
              clear hc0 HSN2 HAT2 HC
              go_wp2_with (first | (at_make; refine Stop.un ?_) | (at_builtin; refine Stop.un ?_) | (with_reducible refine Stop.conv 22 9 ?_) | (with_reducible refine Stop.conv 9 22 ?_))
              go_ret
              exact ⟨by rw [H5.out, HEC.out]; rfl, BB⟩
          ·
            have e2 : (k' != 0) = true := by simpa using q2
            have H2 := Lib.hid q2
            clear q2
            have e : c = -c0 := by rw [← HE.out]; simp [H1.out, H2.out]
            have HEC := Lib.hid e
            clear e HE
            by_cases hc0 : c = 0
            ·
              have H5 := Lib.hid (HSN2.out hc0)
              have hc1 : ((-c0) != 0) = false := by rw [← HEC.out]; simpa using hc0
              have hc2 := hc0
              rw [HEC.out] at hc2
              have HC2 := Lib.hid hc2
              clear hc0 hc2 HSN2 HAT2 HC HEC
              go_wp2_with (first | (at_make; refine Stop.un ?_) | (at_builtin; refine Stop.un ?_) | (with_reducible refine Stop.conv 22 9 ?_) | (with_reducible refine Stop.conv 9 22 ?_))
              go_roundw
              case rel => exact ⟨j + 1, by omega, by go_num, BB, H5⟩
              case measure => simp [intOf]; omega
            ·
              have H5 := Lib.hid (HAT2.out hc0)
              have hc1 : ((-c0) != 0) = true := by rw [← HEC.out]; simpa using hc0
              clear hc0 HSN2 HAT2 HC
              go_wp2_with (first | (at_make; refine Stop.un ?_) | (at_builtin; refine Stop.un ?_) | (with_reducible refine Stop.conv 22 9 ?_) | (with_reducible refine Stop.conv 9 22 ?_))
              go_ret
              exact ⟨by rw [H5.out, HEC.out]; rfl, BB⟩
    · have hjp : j = p := by omega
      subst hjp
      have H2 := Lib.hid (HEN.out HC.out)
      clear HC HEN hlt hj HSN HAT
      go_wp2_with (first | (at_make; refine Stop.un ?_) | (at_builtin; refine Stop.un ?_) | (with_reducible refine Stop.conv 22 9 ?_) | (with_reducible refine Stop.conv 9 22 ?_))
      go_ret
      exact ⟨by rw [H2.out]; rfl, BB⟩
end Go.Proofs.Ytbiniecjenencaa
