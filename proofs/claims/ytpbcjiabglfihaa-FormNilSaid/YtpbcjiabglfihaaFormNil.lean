/- FormNil: a nil reader. -/
import Derived.Test.YtpbcjiabglfihaaLay
import Derived.Test.YtpbcjiabglfihaaMix
set_option linter.unusedVariables false
namespace Go.Proofs.Ytpbcjiabglfihaa
open Go.RowKit
theorem nil_int : bits .xor .i64 0 (wrap64 (-wrap64 (bits .and .u64 0 1))) = 0 := by
  have h := zag_xor 0 (by decide)
  have e : wrap64 (((0 : Nat) : Int) / 2) = 0 := by unfold wrap64; omega
  rw [e] at h
  exact h
set_option maxHeartbeats 400000 in
set_option maxRecDepth 100000 in
theorem nilNum_any (w : World) : Calls Try.prog 18 #[.pointer none] w (fun e w' => e = .returned (.int .u64 0) ∧ w = w') := by
  go_enter Try.func18, Try.ntmps18
  go_wp2
  go_ret
  exact ⟨rfl, rfl⟩

set_option maxHeartbeats 400000 in
set_option maxRecDepth 100000 in
theorem nilInt_any (w : World) : Calls Try.prog 21 #[.pointer none] w (fun e w' => e = .returned (.int .i64 0) ∧ w = w') := by
  go_enter Try.func21, Try.ntmps21
  go_wp2_with fail
  refine (nilNum_any _).mono ?_
  rintro e w1 ⟨rfl, rfl⟩
  go_wp2
  go_ret
  exact ⟨congrArg Ending.returned (congrArg (Value.int IntKind.i64) nil_int), rfl⟩

set_option maxHeartbeats 400000 in
set_option maxRecDepth 100000 in
theorem nilText_any (w : World) : Calls Try.prog 22 #[.pointer none] w (fun e w' => e = .returned (.string ⟨#[]⟩) ∧ w = w') := by
  go_enter Try.func22, Try.ntmps22
  go_wp2_with fail
  refine (nilNum_any _).mono ?_
  rintro e w1 ⟨rfl, rfl⟩
  go_wp2
  go_ret
  exact ⟨rfl, rfl⟩

set_option maxHeartbeats 400000 in
set_option maxRecDepth 100000 in
theorem nilLeft_any (w : World) : Calls Try.prog 20 #[.pointer none] w (fun e w' => e = .returned (.int .i64 0) ∧ w = w') := by
  go_enter Try.func20, Try.ntmps20
  go_wp2
  go_ret
  exact ⟨rfl, rfl⟩

set_option maxHeartbeats 400000 in
set_option maxRecDepth 100000 in
theorem nilBad_any (w : World) : Calls Try.prog 19 #[.pointer none] w (fun e w' => e = .returned (.bool true) ∧ w = w') := by
  go_enter Try.func19, Try.ntmps19
  go_wp2
  go_ret
  exact ⟨rfl, rfl⟩

set_option maxHeartbeats 400000 in
set_option maxRecDepth 100000 in
theorem nilEnd_any (w : World) : Calls Try.prog 23 #[.pointer none] w (fun e w' => e = .returned (.int .i64 6) ∧ w = w') := by
  go_enter Try.func23, Try.ntmps23
  go_wp2_with fail
  refine (nilBad_any _).mono ?_
  rintro e w1 ⟨rfl, rfl⟩
  go_wp2
  go_ret
  exact ⟨rfl, rfl⟩

set_option maxHeartbeats 1000000 in
set_option maxRecDepth 100000 in
theorem formNil_any (ao : Option Addr) (m cap : Nat) (bs : List UInt8) (w : World) (hc : Cs w ao (bcells bs)) (hm : bs.length = m) (hcap : m ≤ cap) (hcm : cap ≤ maxLen) :
    Calls Try.prog 6 #[.slice ao m cap] w (fun e w' => e = .returned (.bool true) ∧ Below w.heap.size w w') := by
  have Hm := Lib.hid hm; clear hm
  have hst := strOf_toList'
  go_enter Try.func6, Try.ntmps6
  go_wp2_with (first | (at_make; refine Stop.un ?_) | (at_builtin; refine Stop.un ?_) | (with_reducible refine Stop.conv 22 9 ?_) | (with_reducible refine Stop.conv 9 22 ?_))
  refine (shown_any _).mono ?_
  rintro e w1 ⟨rfl, b1⟩
  have hx0 := hc.take (min m 3000)
  rw [show (bcells bs).take (min m 3000) = bcells (bs.take (min m 3000)) from by simp [bcells]] at hx0
  have hxl : (bs.take (min m 3000)).length = min m 3000 := by rw [List.length_take, Hm.out]; omega
  have hk : min m 3000 ≤ 3000 := Nat.min_le_right _ _
  have cf := Lib.hid (fun w => few_any ao m cap w hcap hcm)
  generalize bs.take (min m 3000) = xs at hx0 hxl
  generalize min m 3000 = m' at hx0 hxl hk cf
  have hx := hx0.mono b1 (Nat.le_refl _)
  have Hx := Lib.hid hxl
  clear hxl hc Hm hcap hcm bs hx0
  go_wp2_with (first | (at_make; refine Stop.un ?_) | (at_builtin; refine Stop.un ?_) | (with_reducible refine Stop.conv 22 9 ?_) | (with_reducible refine Stop.conv 9 22 ?_))
  refine mix_startE 42 rfl (by kernel_rfl) ?_
  intro x hX
  have hx2 := hx.mono hX (Nat.le_refl _)
  have b2 := b1.next hX
  clear hX hx b1
  refine mix_quiet Keeps.ext 0 rfl (by kernel_rfl) rfl ?_
  intro ι U hne hU
  go_big_quiet_op
  clear hU hne U ι
  show wpAnyM _ _ _ _ _ _ _ _ _
  refine mix_quiet Keeps.ext 1 rfl (by kernel_rfl) rfl ?_
  intro ι U hne hU
  go_big_quiet_op
  clear hU hne U ι
  show wpAnyM _ _ _ _ _ _ _ _ _
  refine mix_quiet Keeps.ext 2 rfl (by kernel_rfl) rfl ?_
  intro ι U hne hU
  go_big_quiet_op
  clear hU hne U ι
  show wpAnyM _ _ _ _ _ _ _ _ _
  refine mix_any 3 rfl (by kernel_rfl) rfl ?_
  go_wp2_with (first | (at_make; refine Stop.un ?_) | (at_builtin; refine Stop.un ?_) | (with_reducible refine Stop.conv 22 9 ?_) | (with_reducible refine Stop.conv 9 22 ?_))
  refine (nilNum_any _).mono ?_
  rintro e w9 ⟨rfl, rfl⟩
  go_wp2_with (first | (at_make; refine Stop.un ?_) | (at_builtin; refine Stop.un ?_) | (with_reducible refine Stop.conv 22 9 ?_) | (with_reducible refine Stop.conv 9 22 ?_))
  refine MixPost.mk (Ext.refl _) ?_
  refine mix_quiet Keeps.ext 4 rfl (by kernel_rfl) rfl ?_
  intro ι U hne hU
  go_big_quiet_op
  clear hU hne U ι
  show wpAnyM _ _ _ _ _ _ _ _ _
  refine mix_quiet Keeps.ext 5 rfl (by kernel_rfl) rfl ?_
  intro ι U hne hU
  go_big_quiet_op
  clear hU hne U ι
  show wpAnyM _ _ _ _ _ _ _ _ _
  refine mix_quiet Keeps.ext 6 rfl (by kernel_rfl) rfl ?_
  intro ι U hne hU
  go_big_quiet_op
  clear hU hne U ι
  show wpAnyM _ _ _ _ _ _ _ _ _
  refine mix_quiet Keeps.ext 7 rfl (by kernel_rfl) rfl ?_
  intro ι U hne hU
  go_big_quiet_op
  clear hU hne U ι
  show wpAnyM _ _ _ _ _ _ _ _ _
  refine mix_any 8 rfl (by kernel_rfl) rfl ?_
  go_wp2_with (first | (at_make; refine Stop.un ?_) | (at_builtin; refine Stop.un ?_) | (with_reducible refine Stop.conv 22 9 ?_) | (with_reducible refine Stop.conv 9 22 ?_))
  refine (nilInt_any _).mono ?_
  rintro e w9 ⟨rfl, rfl⟩
  go_wp2_with (first | (at_make; refine Stop.un ?_) | (at_builtin; refine Stop.un ?_) | (with_reducible refine Stop.conv 22 9 ?_) | (with_reducible refine Stop.conv 9 22 ?_))
  refine MixPost.mk (Ext.refl _) ?_
  refine mix_quiet Keeps.ext 9 rfl (by kernel_rfl) rfl ?_
  intro ι U hne hU
  go_big_quiet_op
  clear hU hne U ι
  show wpAnyM _ _ _ _ _ _ _ _ _
  refine mix_quiet Keeps.ext 10 rfl (by kernel_rfl) rfl ?_
  intro ι U hne hU
  go_big_quiet_op
  clear hU hne U ι
  show wpAnyM _ _ _ _ _ _ _ _ _
  refine mix_quiet Keeps.ext 11 rfl (by kernel_rfl) rfl ?_
  intro ι U hne hU
  go_big_quiet_op
  clear hU hne U ι
  show wpAnyM _ _ _ _ _ _ _ _ _
  refine mix_quiet Keeps.ext 12 rfl (by kernel_rfl) rfl ?_
  intro ι U hne hU
  go_big_quiet_op
  clear hU hne U ι
  show wpAnyM _ _ _ _ _ _ _ _ _
  refine mix_any 13 rfl (by kernel_rfl) rfl ?_
  go_wp2_with (first | (at_make; refine Stop.un ?_) | (at_builtin; refine Stop.un ?_) | (with_reducible refine Stop.conv 22 9 ?_) | (with_reducible refine Stop.conv 9 22 ?_))
  refine (nilText_any _).mono ?_
  rintro e w9 ⟨rfl, rfl⟩
  go_wp2_with (first | (at_make; refine Stop.un ?_) | (at_builtin; refine Stop.un ?_) | (with_reducible refine Stop.conv 22 9 ?_) | (with_reducible refine Stop.conv 9 22 ?_))
  refine MixPost.mk (Ext.refl _) ?_
  refine mix_quiet Keeps.ext 14 rfl (by kernel_rfl) rfl ?_
  intro ι U hne hU
  go_big_quiet_op
  clear hU hne U ι
  show wpAnyM _ _ _ _ _ _ _ _ _
  refine mix_quiet Keeps.ext 15 rfl (by kernel_rfl) rfl ?_
  intro ι U hne hU
  go_big_quiet_op
  clear hU hne U ι
  show wpAnyM _ _ _ _ _ _ _ _ _
  refine mix_quiet Keeps.ext 16 rfl (by kernel_rfl) rfl ?_
  intro ι U hne hU
  go_big_quiet_op
  clear hU hne U ι
  show wpAnyM _ _ _ _ _ _ _ _ _
  refine mix_quiet Keeps.ext 17 rfl (by kernel_rfl) rfl ?_
  intro ι U hne hU
  go_big_quiet_op
  clear hU hne U ι
  show wpAnyM _ _ _ _ _ _ _ _ _
  refine mix_any 18 rfl (by kernel_rfl) rfl ?_
  go_wp2_with (first | (at_make; refine Stop.un ?_) | (at_builtin; refine Stop.un ?_) | (with_reducible refine Stop.conv 22 9 ?_) | (with_reducible refine Stop.conv 9 22 ?_))
  refine (nilLeft_any _).mono ?_
  rintro e w9 ⟨rfl, rfl⟩
  go_wp2_with (first | (at_make; refine Stop.un ?_) | (at_builtin; refine Stop.un ?_) | (with_reducible refine Stop.conv 22 9 ?_) | (with_reducible refine Stop.conv 9 22 ?_))
  refine MixPost.mk (Ext.refl _) ?_
  refine mix_quiet Keeps.ext 19 rfl (by kernel_rfl) rfl ?_
  intro ι U hne hU
  go_big_quiet_op
  clear hU hne U ι
  show wpAnyM _ _ _ _ _ _ _ _ _
  refine mix_quiet Keeps.ext 20 rfl (by kernel_rfl) rfl ?_
  intro ι U hne hU
  go_big_quiet_op
  clear hU hne U ι
  show wpAnyM _ _ _ _ _ _ _ _ _
  refine mix_quiet Keeps.ext 21 rfl (by kernel_rfl) rfl ?_
  intro ι U hne hU
  go_big_quiet_op
  clear hU hne U ι
  show wpAnyM _ _ _ _ _ _ _ _ _
  refine mix_quiet Keeps.ext 22 rfl (by kernel_rfl) rfl ?_
  intro ι U hne hU
  go_big_quiet_op
  clear hU hne U ι
  show wpAnyM _ _ _ _ _ _ _ _ _
  refine mix_any 23 rfl (by kernel_rfl) rfl ?_
  go_wp2_with (first | (at_make; refine Stop.un ?_) | (at_builtin; refine Stop.un ?_) | (with_reducible refine Stop.conv 22 9 ?_) | (with_reducible refine Stop.conv 9 22 ?_))
  refine (nilBad_any _).mono ?_
  rintro e w9 ⟨rfl, rfl⟩
  go_wp2_with (first | (at_make; refine Stop.un ?_) | (at_builtin; refine Stop.un ?_) | (with_reducible refine Stop.conv 22 9 ?_) | (with_reducible refine Stop.conv 9 22 ?_))
  refine MixPost.mk (Ext.refl _) ?_
  refine mix_quiet Keeps.ext 24 rfl (by kernel_rfl) rfl ?_
  intro ι U hne hU
  go_big_quiet_op
  clear hU hne U ι
  show wpAnyM _ _ _ _ _ _ _ _ _
  refine mix_quiet Keeps.ext 25 rfl (by kernel_rfl) rfl ?_
  intro ι U hne hU
  go_big_quiet_op
  clear hU hne U ι
  show wpAnyM _ _ _ _ _ _ _ _ _
  refine mix_quiet Keeps.ext 26 rfl (by kernel_rfl) rfl ?_
  intro ι U hne hU
  go_big_quiet_op
  clear hU hne U ι
  show wpAnyM _ _ _ _ _ _ _ _ _
  refine mix_any 27 rfl (by kernel_rfl) rfl ?_
  go_wp2_with (first | (at_make; refine Stop.un ?_) | (at_builtin; refine Stop.un ?_) | (with_reducible refine Stop.conv 22 9 ?_) | (with_reducible refine Stop.conv 9 22 ?_))
  refine (nilEnd_any _).mono ?_
  rintro e w9 ⟨rfl, rfl⟩
  go_wp2_with (first | (at_make; refine Stop.un ?_) | (at_builtin; refine Stop.un ?_) | (with_reducible refine Stop.conv 22 9 ?_) | (with_reducible refine Stop.conv 9 22 ?_))
  refine MixPost.mk (Ext.refl _) ?_
  refine mix_quiet Keeps.ext 28 rfl (by kernel_rfl) rfl ?_
  intro ι U hne hU
  go_big_quiet_op
  clear hU hne U ι
  show wpAnyM _ _ _ _ _ _ _ _ _
  refine mix_quiet Keeps.ext 29 rfl (by kernel_rfl) rfl ?_
  intro ι U hne hU
  go_big_quiet_op
  clear hU hne U ι
  show wpAnyM _ _ _ _ _ _ _ _ _
  refine mix_quiet Keeps.ext 30 rfl (by kernel_rfl) rfl ?_
  intro ι U hne hU
  go_big_quiet_op
  clear hU hne U ι
  show wpAnyM _ _ _ _ _ _ _ _ _
  refine mix_quiet Keeps.ext 31 rfl (by kernel_rfl) rfl ?_
  intro ι U hne hU
  go_big_quiet_op
  clear hU hne U ι
  show wpAnyM _ _ _ _ _ _ _ _ _
  refine mix_quiet Keeps.ext 35 rfl (by kernel_rfl) rfl ?_
  intro ι U hne hU
  go_big_quiet_op
  clear hU hne U ι
  show wpAnyM _ _ _ _ _ _ _ _ _
  refine mix_any 32 rfl (by kernel_rfl) rfl ?_
  go_wp2_with (first | (at_make; refine Stop.un ?_) | (at_builtin; refine Stop.un ?_) | (with_reducible refine Stop.conv 22 9 ?_) | (with_reducible refine Stop.conv 9 22 ?_))
  refine (cf.out _).mono ?_
  rintro e w9 ⟨rfl, rfl⟩
  go_wp2_with (first | (at_make; refine Stop.un ?_) | (at_builtin; refine Stop.un ?_) | (with_reducible refine Stop.conv 22 9 ?_) | (with_reducible refine Stop.conv 9 22 ?_))
  refine MixPost.mk (Ext.refl _) ?_
  refine mix_any 33 rfl (by kernel_rfl) rfl ?_
  go_wp2_with (first | (at_make; refine Stop.un ?_) | (at_builtin; refine Stop.un ?_) | (with_reducible refine Stop.conv 22 9 ?_) | (with_reducible refine Stop.conv 9 22 ?_))
  refine (text_any ao m' cap xs ⟨#[]⟩ _ hx2 Hx.out (by have : (⟨#[]⟩ : ByteArray).size = 0 := rfl; omega)).mono ?_
  rintro e w3 ⟨ao3, n3, cap3, hn3, rfl, o3⟩
  have H3 := Lib.hid hn3; clear hn3
  go_wp2_with (first | (at_make; refine Stop.un ?_) | (at_builtin; refine Stop.un ?_) | (with_reducible refine Stop.conv 22 9 ?_) | (with_reducible refine Stop.conv 9 22 ?_))
  refine MixPost.mk (Own.below o3) ?_
  have b3 := b2.next (Own.below o3)
  have hx3 := hx2.mono (Own.below o3) (Nat.le_refl _)
  clear b2 hx2
  rw [show textB (⟨#[]⟩ : ByteArray).data.toList = [0] from by decide] at o3 H3
  refine mix_quiet Keeps.ext 34 rfl (by kernel_rfl) rfl ?_
  intro ι U hne hU
  have hcv := fun k => run_conv_cs (P := Try.prog) (w := U k) Try.underlying22 Try.underlying5 Try.underlying9 (cap := cap3) H3.out (Cs.mono (Own.cs o3) (hU k) (Nat.le_refl _))
  go_big_quiet_op
  clear hU hne hcv U ι
  show wpAnyM _ _ _ _ _ _ _ _ _
  refine mix_any 36 rfl (by kernel_rfl) rfl ?_
  go_wp2_with (first | (at_make; refine Stop.un ?_) | (at_builtin; refine Stop.un ?_) | (with_reducible refine Stop.conv 22 9 ?_) | (with_reducible refine Stop.conv 9 22 ?_))
  refine (cf.out _).mono ?_
  rintro e w9 ⟨rfl, rfl⟩
  go_wp2_with (first | (at_make; refine Stop.un ?_) | (at_builtin; refine Stop.un ?_) | (with_reducible refine Stop.conv 22 9 ?_) | (with_reducible refine Stop.conv 9 22 ?_))
  refine MixPost.mk (Ext.refl _) ?_
  refine mix_quiet Keeps.ext 37 rfl (by kernel_rfl) rfl ?_
  intro ι U hne hU
  have hcv := fun k => run_conv_cs (P := Try.prog) (w := U k) Try.underlying22 Try.underlying5 Try.underlying9 (cap := cap) Hx.out (Cs.mono hx3 (hU k) (Nat.le_refl _))
  go_big_quiet_op
  clear hU hne hcv U ι
  show wpAnyM _ _ _ _ _ _ _ _ _
  have hsz : (strOf xs).size = m' := by rw [strOf_size]; exact Hx.out
  have hap : (strOf xs ++ ⟨#[0]⟩).toList = xs ++ [0] := by rw [show (⟨#[0]⟩ : ByteArray) = strOf [0] from rfl, strOf_append, strOf_toList']
  have hs1 : ByteArray.size ⟨#[0]⟩ = 1 := rfl
  refine mix_quiet Keeps.ext 38 rfl (by kernel_rfl) rfl ?_
  intro ι U hne hU
  go_big_quiet_op
  clear hU hne U ι
  show wpAnyM _ _ _ _ _ _ _ _ _
  refine mix_quiet Keeps.ext 39 rfl (by kernel_rfl) rfl ?_
  intro ι U hne hU
  go_big_quiet_op
  clear hU hne U ι
  show wpAnyM _ _ _ _ _ _ _ _ _
  refine mix_quiet Keeps.ext 40 rfl (by kernel_rfl) rfl ?_
  intro ι U hne hU
  go_big_quiet_op
  clear hU hne U ι
  show wpAnyM _ _ _ _ _ _ _ _ _
  refine mix_quiet Keeps.ext 41 rfl (by kernel_rfl) rfl ?_
  intro ι U hne hU
  go_big_quiet_op
  clear hU hne U ι
  show wpAnyM _ _ _ _ _ _ _ _ _
  refine mix_end (by kernel_rfl) ?_
  go_wp2_with (first | (at_make; refine Stop.un ?_) | (at_builtin; refine Stop.un ?_) | (with_reducible refine Stop.conv 22 9 ?_) | (with_reducible refine Stop.conv 9 22 ?_))
  go_ret
  exact ⟨rfl, b3⟩
end Go.Proofs.Ytpbcjiabglfihaa
