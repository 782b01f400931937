/- FormOnly. -/
import Derived.Test.YtpbcjiabglfihaaLay
import Derived.Test.YtpbcjiabglfihaaMix
import Derived.Test.YtpbcjiabglfihaaRdrT
set_option linter.unusedVariables false
namespace Go.Proofs.Ytpbcjiabglfihaa
open Go.RowKit
set_option maxHeartbeats 1000000 in
set_option maxRecDepth 100000 in
theorem formOnly_any (ao : Option Addr) (m cap : Nat) (bs : List UInt8) (w : World) (hc : Cs w ao (bcells bs)) (hm : bs.length = m) (hcap : m ≤ cap) (hcm : cap ≤ maxLen) :
    Calls Try.prog 5 #[.slice ao m cap] w (fun e w' => e = .returned (.bool true) ∧ Below w.heap.size w w') := by
  have Hm := Lib.hid hm; clear hm
  have hst := strOf_toList'
  unfold maxLen at hcm
  go_enter Try.func5, Try.ntmps5
  go_wp2_with (first | (at_make; refine Stop.un ?_) | (at_builtin; refine Stop.un ?_) | (with_reducible refine Stop.conv 22 9 ?_) | (with_reducible refine Stop.conv 9 22 ?_))
  refine (shown_any _).mono ?_
  rintro e w1 ⟨rfl, b1⟩
  go_wp2_with (first | (at_make; refine Stop.un ?_) | (at_builtin; refine Stop.un ?_) | (with_reducible refine Stop.conv 22 9 ?_) | (with_reducible refine Stop.conv 9 22 ?_))
  have hm1 : (min (m : Int) 20).toNat = min m 20 := by omega
  have hx0 := hc.take (min m 20)
  rw [show (bcells bs).take (min m 20) = bcells (bs.take (min m 20)) from by simp [bcells]] at hx0
  have hxl : (bs.take (min m 20)).length = min m 20 := by rw [List.length_take, Hm.out]; omega
  have hk : min m 20 ≤ 20 := Nat.min_le_right _ _
  have hkc : min m 20 ≤ cap := by omega
  rw [hm1]
  generalize bs.take (min m 20) = xs at hx0 hxl
  generalize min m 20 = m' at hm1 hx0 hxl hk hkc
  have hx := hx0.mono b1 (Nat.le_refl _)
  have Hx := Lib.hid hxl
  clear hxl hc Hm bs hx0
  refine (newo_any ao m' cap xs _ hx Hx.out (by omega)).mono ?_
  rintro e w2 ⟨g, rfl, hg, hr, b2⟩
  have hg0 : w.heap.size ≤ g := Nat.le_trans b1.size hg
  have b12 := b1.next b2
  clear b1
  go_wp2_with (first | (at_make; refine Stop.un ?_) | (at_builtin; refine Stop.un ?_) | (with_reducible refine Stop.conv 22 9 ?_) | (with_reducible refine Stop.conv 9 22 ?_))
  refine (rnumo_any _ _ _ g xs false _ hr).mono ?_
  rintro e w3 ⟨rfl, hr3, hg3⟩
  have b13 := b12.one hg3 hg0 (Nat.le_refl _)
  have b23 := b2.one hg3 hg (Nat.le_refl _)
  clear hr hg3 b12 b2
  have HN := Lib.hid (rdN_lt xs)
  cases htn : tnum xs with
  | none =>
    obtain ⟨e1, e2, e3⟩ := rd_of_none htn
    rw [e1]
    rw [e2, e3] at hr3
    clear e1 e2 e3 htn
    go_wp2_with (first | (at_make; refine Stop.un ?_) | (at_builtin; refine Stop.un ?_) | (with_reducible refine Stop.conv 22 9 ?_) | (with_reducible refine Stop.conv 9 22 ?_))
    refine (rbado_any _ _ _ g _ _ _ hr3).mono ?_
    rintro e w9 ⟨rfl, rfl⟩
    go_wp2_with (first | (at_make; refine Stop.un ?_) | (at_builtin; refine Stop.un ?_) | (with_reducible refine Stop.conv 22 9 ?_) | (with_reducible refine Stop.conv 9 22 ?_))
    refine (rlefto_any _ _ _ g _ _ _ hr3).mono ?_
    rintro e w9 ⟨rfl, rfl⟩
    go_wp2_with (first | (at_make; refine Stop.un ?_) | (at_builtin; refine Stop.un ?_) | (with_reducible refine Stop.conv 22 9 ?_) | (with_reducible refine Stop.conv 9 22 ?_))
    refine (rnumo_any _ _ _ g _ _ _ hr3).mono ?_
    rintro e w4 ⟨rfl, hr4, hg4⟩
    have b14 := b13.one hg4 hg0 (Nat.le_refl _)
    rw [show rdRest [] = [] from rfl] at hr4
    rw [show rdN [] = 0 from rfl]
    clear hr3 b13 hg4
    go_wp2_with (first | (at_make; refine Stop.un ?_) | (at_builtin; refine Stop.un ?_) | (with_reducible refine Stop.conv 22 9 ?_) | (with_reducible refine Stop.conv 9 22 ?_))
    refine (rinto_any _ _ _ g _ _ _ hr4).mono ?_
    rintro e w5 ⟨rfl, hr5, hg5⟩
    have b15 := b14.one hg5 hg0 (Nat.le_refl _)
    rw [show rdRest [] = [] from rfl] at hr5
    rw [show zag (rdN []) = 0 from rfl]
    clear hr4 b14 hg5
    go_wp2_with (first | (at_make; refine Stop.un ?_) | (at_builtin; refine Stop.un ?_) | (with_reducible refine Stop.conv 22 9 ?_) | (with_reducible refine Stop.conv 9 22 ?_))
    refine (rtexto_any _ _ _ g _ _ _ hr5).mono ?_
    rintro e w6 ⟨rfl, hr6, hg6⟩
    have b16 := b15.one hg6 hg0 (Nat.le_refl _)
    rw [show rdT [] = [] from rfl]
    clear hr5 b15 hg6 hr6
    go_wp2_with (first | (at_make; refine Stop.un ?_) | (at_builtin; refine Stop.un ?_) | (with_reducible refine Stop.conv 22 9 ?_) | (with_reducible refine Stop.conv 9 22 ?_))
    go_ret
    exact ⟨rfl, b16⟩
  | some p =>
    obtain ⟨N, r⟩ := p
    obtain ⟨e1, e2, e3⟩ := rd_of_some htn
    have hs := tnum_spec htn
    have hN := HN.out
    rw [e1] at hN
    rw [e1]
    rw [e2, e3] at hr3
    have hln := numB_length N
    have hl2 := congrArg List.length hs
    rw [List.length_append, Hx.out] at hl2
    have hxe := hx.mono b23 (Nat.le_refl _)
    have hxt := hxe.take (numB N).length
    rw [show (bcells xs).take (numB N).length = bcells (numB N) from by rw [hs]; simp [bcells, List.take_append_of_le_length]] at hxt
    clear e1 e2 e3 htn hs hx hxe b23 HN
    have HL := Lib.hid hl2
    have hN' : (N : Int) ≤ 18446744073709551615 := by omega
    obtain ⟨k, hk⟩ : ∃ k, (numB N).length = k := ⟨_, rfl⟩
    have HK := Lib.hid hk
    rw [hk] at hln hl2
    have hkk : (m' : Int) - (r.length : Int) = (k : Int) := by omega
    have hkk2 : k ≤ m' := by omega
    obtain ⟨hk1, hk2⟩ := hln
    have hb1 : decide ((1 : Int) ≤ (k : Int)) = true := by simp; omega
    have hb2 : decide (k ≤ m') = true := by simp; omega
    clear hk hN hl2
    go_wp2_with (first | (at_make; refine Stop.un ?_) | (at_builtin; refine Stop.un ?_) | (with_reducible refine Stop.conv 22 9 ?_) | (with_reducible refine Stop.conv 9 22 ?_))
    refine (rbado_any _ _ _ g _ _ _ hr3).mono ?_
    rintro e w9 ⟨rfl, rfl⟩
    go_wp2_with (first | (at_make; refine Stop.un ?_) | (at_builtin; refine Stop.un ?_) | (with_reducible refine Stop.conv 22 9 ?_) | (with_reducible refine Stop.conv 9 22 ?_))
    refine (rlefto_any _ _ _ g _ _ _ hr3).mono ?_
    rintro e w9 ⟨rfl, rfl⟩
    go_wp2_with (first | (at_make; refine Stop.un ?_) | (at_builtin; refine Stop.un ?_) | (with_reducible refine Stop.conv 22 9 ?_) | (with_reducible refine Stop.conv 9 22 ?_))
    refine mix_startE 22 rfl (by kernel_rfl) ?_
    intro x hX
    have hx4 := hxt.mono hX (Nat.le_refl _)
    have b4 := b13.next hX
    clear hX hxt b13
    refine mix_quiet Keeps.ext 0 rfl (by kernel_rfl) rfl ?_
    intro ι U hne hU
    go_big_quiet_op
    clear hU hne U ι
    show wpAnyM _ _ _ _ _ _ _ _ _
    refine mix_quiet Keeps.ext 1 rfl (by kernel_rfl) rfl ?_
    intro ι U hne hU
    go_big_quiet_op
    clear hU hne U ι
    show wpAnyM _ _ _ _ _ _ _ _ _
    refine mix_quiet Keeps.ext 2 rfl (by kernel_rfl) rfl ?_
    intro ι U hne hU
    go_big_quiet_op
    clear hU hne U ι
    show wpAnyM _ _ _ _ _ _ _ _ _
    refine mix_quiet Keeps.ext 3 rfl (by kernel_rfl) rfl ?_
    intro ι U hne hU
    go_big_quiet_op
    clear hU hne U ι
    show wpAnyM _ _ _ _ _ _ _ _ _
    refine mix_quiet Keeps.ext 4 rfl (by kernel_rfl) rfl ?_
    intro ι U hne hU
    go_big_quiet_op
    clear hU hne U ι
    show wpAnyM _ _ _ _ _ _ _ _ _
    refine mix_quiet Keeps.ext 5 rfl (by kernel_rfl) rfl ?_
    intro ι U hne hU
    go_big_quiet_op
    clear hU hne U ι
    show wpAnyM _ _ _ _ _ _ _ _ _
    refine mix_quiet Keeps.ext 6 rfl (by kernel_rfl) rfl ?_
    intro ι U hne hU
    go_big_quiet_op
    clear hU hne U ι
    show wpAnyM _ _ _ _ _ _ _ _ _
    refine mix_quiet Keeps.ext 7 rfl (by kernel_rfl) rfl ?_
    intro ι U hne hU
    go_big_quiet_op
    clear hU hne U ι
    show wpAnyM _ _ _ _ _ _ _ _ _
    refine mix_quiet Keeps.ext 8 rfl (by kernel_rfl) rfl ?_
    intro ι U hne hU
    go_big_quiet_op
    clear hU hne U ι
    show wpAnyM _ _ _ _ _ _ _ _ _
    refine mix_quiet Keeps.ext 9 rfl (by kernel_rfl) rfl ?_
    intro ι U hne hU
    go_big_quiet_op
    clear hU hne U ι
    show wpAnyM _ _ _ _ _ _ _ _ _
    refine mix_quiet Keeps.ext 10 rfl (by kernel_rfl) rfl ?_
    intro ι U hne hU
    go_big_quiet_op
    clear hU hne U ι
    show wpAnyM _ _ _ _ _ _ _ _ _
    refine mix_quiet Keeps.ext 11 rfl (by kernel_rfl) rfl ?_
    intro ι U hne hU
    go_big_quiet_op
    clear hU hne U ι
    show wpAnyM _ _ _ _ _ _ _ _ _
    refine mix_quiet Keeps.ext 12 rfl (by kernel_rfl) rfl ?_
    intro ι U hne hU
    go_big_quiet_op
    clear hU hne U ι
    show wpAnyM _ _ _ _ _ _ _ _ _
    refine mix_quiet Keeps.ext 15 rfl (by kernel_rfl) rfl ?_
    intro ι U hne hU
    go_big_quiet_op
    clear hU hne U ι
    show wpAnyM _ _ _ _ _ _ _ _ _
    refine mix_quiet Keeps.ext 16 rfl (by kernel_rfl) rfl ?_
    intro ι U hne hU
    go_big_quiet_op
    clear hU hne U ι
    show wpAnyM _ _ _ _ _ _ _ _ _
    refine mix_quiet Keeps.ext 17 rfl (by kernel_rfl) rfl ?_
    intro ι U hne hU
    go_big_quiet_op
    clear hU hne U ι
    show wpAnyM _ _ _ _ _ _ _ _ _
    refine mix_quiet Keeps.ext 18 rfl (by kernel_rfl) rfl ?_
    intro ι U hne hU
    have hcv := fun k => run_conv_cs (P := Try.prog) (w := U k) Try.underlying22 Try.underlying5 Try.underlying9 (cap := cap) HK.out (Cs.mono hx4 (hU k) (Nat.le_refl _))
    go_big_quiet_op
    clear hU hne hcv U ι
    show wpAnyM _ _ _ _ _ _ _ _ _
    refine mix_any 13 rfl (by kernel_rfl) rfl ?_
    go_wp2_with (first | (at_make; refine Stop.un ?_) | (at_builtin; refine Stop.un ?_) | (with_reducible refine Stop.conv 22 9 ?_) | (with_reducible refine Stop.conv 9 22 ?_))
    refine (num_any none 0 0 [] (N : Int) _ (Cs.nil _ _) rfl (by omega) (by omega) hN').mono ?_
    rintro e w5 ⟨ao1, n1, cap1, hn1, rfl, o1⟩
    rw [List.nil_append, Int.toNat_natCast] at hn1 o1
    have H1 := Lib.hid hn1; clear hn1
    go_wp2_with (first | (at_make; refine Stop.un ?_) | (at_builtin; refine Stop.un ?_) | (with_reducible refine Stop.conv 22 9 ?_) | (with_reducible refine Stop.conv 9 22 ?_))
    refine MixPost.mk (Own.below o1) ?_
    have b5 := b4.next (Own.below o1)
    refine mix_quiet Keeps.ext 14 rfl (by kernel_rfl) rfl ?_
    intro ι U hne hU
    have hcv := fun k => run_conv_cs (P := Try.prog) (w := U k) Try.underlying22 Try.underlying5 Try.underlying9 (cap := cap1) H1.out (Cs.mono (Own.cs o1) (hU k) (Nat.le_refl _))
    go_big_quiet_op
    clear hU hne hcv U ι
    show wpAnyM _ _ _ _ _ _ _ _ _
    refine mix_quiet Keeps.ext 19 rfl (by kernel_rfl) rfl ?_
    intro ι U hne hU
    go_big_quiet_op
    clear hU hne U ι
    show wpAnyM _ _ _ _ _ _ _ _ _
    refine mix_quiet Keeps.ext 20 rfl (by kernel_rfl) rfl ?_
    intro ι U hne hU
    go_big_quiet_op
    clear hU hne U ι
    show wpAnyM _ _ _ _ _ _ _ _ _
    refine mix_quiet Keeps.ext 21 rfl (by kernel_rfl) rfl ?_
    intro ι U hne hU
    go_big_quiet_op
    clear hU hne U ι
    show wpAnyM _ _ _ _ _ _ _ _ _
    refine mix_end (by kernel_rfl) ?_
    go_wp2_with (first | (at_make; refine Stop.un ?_) | (at_builtin; refine Stop.un ?_) | (with_reducible refine Stop.conv 22 9 ?_) | (with_reducible refine Stop.conv 9 22 ?_))
    go_ret
    exact ⟨rfl, b5⟩
end Go.Proofs.Ytpbcjiabglfihaa
