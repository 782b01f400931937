/- FormLays. -/
import Derived.Test.YtpbcjiabglfihaaLay
import Derived.Test.YtpbcjiabglfihaaMix
namespace Go.Proofs.Ytpbcjiabglfihaa
open Go.RowKit
set_option maxHeartbeats 1000000 in
set_option maxRecDepth 100000 in
theorem formLays_any (ao : Option Addr) (m cap : Nat) (bs : List UInt8) (n k : Int) (s : ByteArray) (w : World) (hc : Cs w ao (bcells bs)) (hm : bs.length = m) (hcap : m ≤ cap) (hcm : cap ≤ maxLen) (h0 : 0 ≤ n) (h1 : n ≤ 18446744073709551615) (h2 : -9223372036854775808 ≤ k) (h3 : k ≤ 9223372036854775807) (hs : s.size ≤ maxLen) :
    Calls Try.prog 3 #[.slice ao m cap, .int .u64 n, .int .i64 k, .string s] w (fun e w' => e = .returned (.bool true) ∧ Below w.heap.size w w') := by
  have Hm := Lib.hid hm; clear hm
  go_enter Try.func3, Try.ntmps3
  go_wp2_with (first | (at_make; refine Stop.un ?_) | (at_builtin; refine Stop.un ?_) | (with_reducible refine Stop.conv 22 9 ?_) | (with_reducible refine Stop.conv 9 22 ?_))
  refine (shown_any _).mono ?_
  rintro e w1 ⟨rfl, b1⟩
  go_wp2_with (first | (at_make; refine Stop.un ?_) | (at_builtin; refine Stop.un ?_) | (with_reducible refine Stop.conv 22 9 ?_) | (with_reducible refine Stop.conv 9 22 ?_))
  refine (few_any ao m cap _ hcap hcm).mono ?_
  rintro e w' ⟨rfl, rfl⟩
  have hx0 := hc.take (min m 3000)
  rw [show (bcells bs).take (min m 3000) = bcells (bs.take (min m 3000)) from by simp [bcells]] at hx0
  have hxl : (bs.take (min m 3000)).length = min m 3000 := by rw [List.length_take, Hm.out]; omega
  have hk : min m 3000 ≤ 3000 := Nat.min_le_right _ _
  generalize bs.take (min m 3000) = xs at hx0 hxl
  generalize min m 3000 = m' at hx0 hxl hk
  have Hx := Lib.hid hxl
  have hx := hx0.mono b1 (Nat.le_refl _)
  clear hxl hc Hm hcap hcm bs
  go_wp2_with (first | (at_make; refine Stop.un ?_) | (at_builtin; refine Stop.un ?_) | (with_reducible refine Stop.conv 22 9 ?_) | (with_reducible refine Stop.conv 9 22 ?_))
  refine Stop.mk (wpList_conv Try.underlying22 Try.underlying5 Try.underlying9 _ rfl rfl rfl Hx.out hx ?_)
  go_wp2_with (first | (at_make; refine Stop.un ?_) | (at_builtin; refine Stop.un ?_) | (with_reducible refine Stop.conv 22 9 ?_) | (with_reducible refine Stop.conv 9 22 ?_))
  have hS : (s.extract 0 (min (s.size : Int) 3000).toNat).size ≤ 3000 := by rw [ByteArray.size_extract]; omega
  generalize s.extract 0 (min (s.size : Int) 3000).toNat = S at hS
  refine (num_any ao m' cap xs n _ hx Hx.out (by omega) h0 h1).mono ?_
  rintro e w2 ⟨ao2, n2, cap2, hn2, rfl, o2⟩
  have hle2 : n2 ≤ 4000 := by
    rw [← hn2, List.length_append, Hx.out]; have := (numB_length n.toNat).2; omega
  have hp2 := Own.lt o2
  have H2 := Lib.hid hn2; clear hn2
  have hx2 := hx.mono (Own.below o2) (Nat.le_refl _)
  have b2 := b1.next (Own.below o2)
  clear hx
  go_wp2_with (first | (at_make; refine Stop.un ?_) | (at_builtin; refine Stop.un ?_) | (with_reducible refine Stop.conv 22 9 ?_) | (with_reducible refine Stop.conv 9 22 ?_))
  refine (int_any ao m' cap xs k _ hx2 Hx.out (by omega) h2 h3).mono ?_
  rintro e w3 ⟨ao3, n3, cap3, hn3, rfl, o3⟩
  have hle3 : n3 ≤ 4000 := by
    rw [← hn3, List.length_append, Hx.out, intB]; have := (numB_length (Lib.zigzag k)).2; omega
  have H3 := Lib.hid hn3; clear hn3
  have hx3 := hx2.mono (Own.below o3) (Nat.le_refl _)
  have b3 := b2.next (Own.below o3)
  have o2' := Own.keep o2 (Own.below o3)
  clear hx2 o2
  go_wp2_with (first | (at_make; refine Stop.un ?_) | (at_builtin; refine Stop.un ?_) | (with_reducible refine Stop.conv 22 9 ?_) | (with_reducible refine Stop.conv 9 22 ?_))
  refine (text_any ao m' cap xs S _ hx3 Hx.out (by omega)).mono ?_
  rintro e w4 ⟨ao4, n4, cap4, hn4, rfl, o4⟩
  have H4 := Lib.hid hn4; clear hn4
  have hx4 := hx3.mono (Own.below o4) (Nat.le_refl _)
  have b4 := b3.next (Own.below o4)
  have o2 := Own.keep o2' (Own.below o4)
  have o3' := Own.keep o3 (Own.below o4)
  clear hx3 o3 o2'
  go_wp2_with (first | (at_make; refine Stop.un ?_) | (at_builtin; refine Stop.un ?_) | (with_reducible refine Stop.conv 22 9 ?_) | (with_reducible refine Stop.conv 9 22 ?_))
  refine mix_start 26 rfl (by kernel_rfl) ?_
  refine mix_quiet 0 rfl (by kernel_rfl) rfl ?_
  intro ι U hne hU
  go_big_quiet_op
  clear hU hne U ι
  show wpAnyM _ _ _ _ _ _ _ _
  refine mix_quiet 1 rfl (by kernel_rfl) rfl ?_
  intro ι U hne hU
  have hcv := fun k => run_conv_cs (P := Try.prog) (w := U k) Try.underlying22 Try.underlying5 Try.underlying9 (cap := cap2) H2.out (Cs.mono (Own.cs o2) (hU k) (Nat.le_refl _))
  go_big_quiet_op
  clear hU hne hcv U ι
  show wpAnyM _ _ _ _ _ _ _ _
  refine mix_quiet 2 rfl (by kernel_rfl) rfl ?_
  intro ι U hne hU
  go_big_quiet_op
  clear hU hne U ι
  show wpAnyM _ _ _ _ _ _ _ _
  refine mix_quiet 3 rfl (by kernel_rfl) rfl ?_
  intro ι U hne hU
  go_big_quiet_op
  clear hU hne U ι
  show wpAnyM _ _ _ _ _ _ _ _
  refine mix_any 4 rfl (by kernel_rfl) rfl ?_
  intro x hx
  go_wp2_with (first | (at_make; refine Stop.un ?_) | (at_builtin; refine Stop.un ?_) | (with_reducible refine Stop.conv 22 9 ?_) | (with_reducible refine Stop.conv 9 22 ?_))
  refine (rnum_any ao m' cap xs n _ (hx4.mono hx (Nat.le_refl _)) Hx.out (by omega) h0 h1).mono ?_
  rintro e w5 ⟨ao5, n5, cap5, hn5, rfl, o5⟩
  have H5 := Lib.hid hn5; clear hn5
  go_wp2_with (first | (at_make; refine Stop.un ?_) | (at_builtin; refine Stop.un ?_) | (with_reducible refine Stop.conv 22 9 ?_) | (with_reducible refine Stop.conv 9 22 ?_))
  refine MixPost.mk (Own.below o5) ?_
  have e5 := hx.trans (Own.below o5)
  have hx5 := hx4.mono e5 (Nat.le_refl _)
  have o25 := Own.keep o2 e5
  have o35 := Own.keep o3' e5
  have o45 := Own.keep o4 e5
  have b5 := b4.next e5
  clear hx hx4 o2 o3' o4 b4 e5
  refine mix_quiet 5 rfl (by kernel_rfl) rfl ?_
  intro ι U hne hU
  have hcv := fun k => run_conv_cs (P := Try.prog) (w := U k) Try.underlying22 Try.underlying5 Try.underlying9 (cap := cap5) H5.out (Cs.mono (Own.cs o5) (hU k) (Nat.le_refl _))
  go_big_quiet_op
  clear hU hne hcv U ι
  show wpAnyM _ _ _ _ _ _ _ _
  refine mix_quiet 6 rfl (by kernel_rfl) rfl ?_
  intro ι U hne hU
  go_big_quiet_op
  clear hU hne U ι
  show wpAnyM _ _ _ _ _ _ _ _
  refine mix_quiet 7 rfl (by kernel_rfl) rfl ?_
  intro ι U hne hU
  go_big_quiet_op
  clear hU hne U ι
  show wpAnyM _ _ _ _ _ _ _ _
  refine mix_quiet 8 rfl (by kernel_rfl) rfl ?_
  intro ι U hne hU
  go_big_quiet_op
  clear hU hne U ι
  show wpAnyM _ _ _ _ _ _ _ _
  refine mix_quiet 9 rfl (by kernel_rfl) rfl ?_
  intro ι U hne hU
  have hcv := fun k => run_conv_cs (P := Try.prog) (w := U k) Try.underlying22 Try.underlying5 Try.underlying9 (cap := cap3) H3.out (Cs.mono (Own.cs o35) (hU k) (Nat.le_refl _))
  go_big_quiet_op
  clear hU hne hcv U ι
  show wpAnyM _ _ _ _ _ _ _ _
  refine mix_quiet 10 rfl (by kernel_rfl) rfl ?_
  intro ι U hne hU
  go_big_quiet_op
  clear hU hne U ι
  show wpAnyM _ _ _ _ _ _ _ _
  refine mix_quiet 11 rfl (by kernel_rfl) rfl ?_
  intro ι U hne hU
  go_big_quiet_op
  clear hU hne U ι
  show wpAnyM _ _ _ _ _ _ _ _
  refine mix_any 12 rfl (by kernel_rfl) rfl ?_
  intro x hx
  go_wp2_with (first | (at_make; refine Stop.un ?_) | (at_builtin; refine Stop.un ?_) | (with_reducible refine Stop.conv 22 9 ?_) | (with_reducible refine Stop.conv 9 22 ?_))
  refine (rint_any ao m' cap xs k _ (hx5.mono hx (Nat.le_refl _)) Hx.out (by omega) h2 h3).mono ?_
  rintro e w6 ⟨ao6, n6, cap6, hn6, rfl, o6⟩
  have H6 := Lib.hid hn6; clear hn6
  go_wp2_with (first | (at_make; refine Stop.un ?_) | (at_builtin; refine Stop.un ?_) | (with_reducible refine Stop.conv 22 9 ?_) | (with_reducible refine Stop.conv 9 22 ?_))
  refine MixPost.mk (Own.below o6) ?_
  have e6 := hx.trans (Own.below o6)
  have hx6 := hx5.mono e6 (Nat.le_refl _)
  have o26 := Own.keep o25 e6
  have o36 := Own.keep o35 e6
  have o46 := Own.keep o45 e6
  have b6 := b5.next e6
  clear hx hx5 o25 o35 o45 b5 e6 o5 H5
  refine mix_quiet 13 rfl (by kernel_rfl) rfl ?_
  intro ι U hne hU
  have hcv := fun k => run_conv_cs (P := Try.prog) (w := U k) Try.underlying22 Try.underlying5 Try.underlying9 (cap := cap6) H6.out (Cs.mono (Own.cs o6) (hU k) (Nat.le_refl _))
  go_big_quiet_op
  clear hU hne hcv U ι
  show wpAnyM _ _ _ _ _ _ _ _
  refine mix_quiet 14 rfl (by kernel_rfl) rfl ?_
  intro ι U hne hU
  go_big_quiet_op
  clear hU hne U ι
  show wpAnyM _ _ _ _ _ _ _ _
  refine mix_quiet 15 rfl (by kernel_rfl) rfl ?_
  intro ι U hne hU
  go_big_quiet_op
  clear hU hne U ι
  show wpAnyM _ _ _ _ _ _ _ _
  refine mix_quiet 16 rfl (by kernel_rfl) rfl ?_
  intro ι U hne hU
  go_big_quiet_op
  clear hU hne U ι
  show wpAnyM _ _ _ _ _ _ _ _
  refine mix_quiet 17 rfl (by kernel_rfl) rfl ?_
  intro ι U hne hU
  go_big_quiet_op
  clear hU hne U ι
  show wpAnyM _ _ _ _ _ _ _ _
  refine mix_quiet 18 rfl (by kernel_rfl) rfl ?_
  intro ι U hne hU
  have hcv := fun k => run_conv_cs (P := Try.prog) (w := U k) Try.underlying22 Try.underlying5 Try.underlying9 (cap := cap4) H4.out (Cs.mono (Own.cs o46) (hU k) (Nat.le_refl _))
  go_big_quiet_op
  clear hU hne hcv U ι
  show wpAnyM _ _ _ _ _ _ _ _
  refine mix_quiet 19 rfl (by kernel_rfl) rfl ?_
  intro ι U hne hU
  go_big_quiet_op
  clear hU hne U ι
  show wpAnyM _ _ _ _ _ _ _ _
  refine mix_quiet 20 rfl (by kernel_rfl) rfl ?_
  intro ι U hne hU
  go_big_quiet_op
  clear hU hne U ι
  show wpAnyM _ _ _ _ _ _ _ _
  refine mix_any 21 rfl (by kernel_rfl) rfl ?_
  intro x hx
  go_wp2_with (first | (at_make; refine Stop.un ?_) | (at_builtin; refine Stop.un ?_) | (with_reducible refine Stop.conv 22 9 ?_) | (with_reducible refine Stop.conv 9 22 ?_))
  refine (rtext_any ao m' cap xs S _ (hx6.mono hx (Nat.le_refl _)) Hx.out (by omega)).mono ?_
  rintro e w7 ⟨ao7, n7, cap7, hn7, rfl, o7⟩
  have H7 := Lib.hid hn7; clear hn7
  go_wp2_with (first | (at_make; refine Stop.un ?_) | (at_builtin; refine Stop.un ?_) | (with_reducible refine Stop.conv 22 9 ?_) | (with_reducible refine Stop.conv 9 22 ?_))
  refine MixPost.mk (Own.below o7) ?_
  have e7 := hx.trans (Own.below o7)
  have hx7 := hx6.mono e7 (Nat.le_refl _)
  have o27 := Own.keep o26 e7
  have o37 := Own.keep o36 e7
  have b7 := b6.next e7
  clear hx hx6 o26 o36 o46 b6 e7 o6 H6
  refine mix_quiet 22 rfl (by kernel_rfl) rfl ?_
  intro ι U hne hU
  have hcv := fun k => run_conv_cs (P := Try.prog) (w := U k) Try.underlying22 Try.underlying5 Try.underlying9 (cap := cap7) H7.out (Cs.mono (Own.cs o7) (hU k) (Nat.le_refl _))
  go_big_quiet_op
  clear hU hne hcv U ι
  show wpAnyM _ _ _ _ _ _ _ _
  refine mix_quiet 23 rfl (by kernel_rfl) rfl ?_
  intro ι U hne hU
  go_big_quiet_op
  clear hU hne U ι
  show wpAnyM _ _ _ _ _ _ _ _
  refine mix_quiet 24 rfl (by kernel_rfl) rfl ?_
  intro ι U hne hU
  go_big_quiet_op
  clear hU hne U ι
  show wpAnyM _ _ _ _ _ _ _ _
  refine mix_quiet 25 rfl (by kernel_rfl) rfl ?_
  intro ι U hne hU
  go_big_quiet_op
  clear hU hne U ι
  show wpAnyM _ _ _ _ _ _ _ _
  refine mix_end (by kernel_rfl) ?_
  intro x hx
  have hx8 := hx7.mono hx (Nat.le_refl _)
  have b8 := b7.next hx
  have o28 := (Own.keep o27 hx).1
  have o38 := (Own.keep o37 hx).1
  clear hx hx7 o27 o37 b7 o7 H7 H2 H3 H4
  have hw1 : w.heap.size ≤ w1.heap.size := b1.size
  have rp : NumRow .u8 x w.heap.size 5 (.slice ao2 n2 cap2) n2 := ⟨_, fun u hu => (by obtain ⟨c, _, rfl⟩ := List.mem_map.1 hu; exact ⟨_, rfl⟩), o28.mono_base hw1⟩
  have rq : NumRow .u8 x w2.heap.size 5 (.slice ao3 n3 cap3) n3 := ⟨_, fun u hu => (by obtain ⟨c, _, rfl⟩ := List.mem_map.1 hu; exact ⟨_, rfl⟩), o38⟩
  clear o28 o38
  clear hx8
  have HP := Lib.hid hp2; clear hp2
  go_wp2_with (first | (at_make; refine Stop.un ?_) | (at_builtin; refine Stop.un ?_) | (with_reducible refine Stop.conv 22 9 ?_) | (with_reducible refine Stop.conv 9 22 ?_))
  go_loopw [65] (fun c wr => ∃ j : Nat, j ≤ n2 ∧ c = .int .i64 (j : Int) ∧ NumRow .u8 wr w.heap.size 5 (.slice ao2 n2 cap2) n2 ∧ NumRow .u8 wr w2.heap.size 5 (.slice ao3 n3 cap3) n3 ∧ Below w.heap.size w wr) (fun c _ => n2 - (intOf c).toNat)
  case atStart => exact ⟨0, by omega, rfl, rp, rq, b8⟩
  case round =>
    obtain ⟨j, hj, rfl, rp', rq', bw⟩ := hrel
    by_cases hlt : j < n2
    · obtain ⟨g, z, hg, hge, hcell, hfree, hst⟩ := rp'.at hlt
      subst hg
      have hgl := HP.out g rfl
      have st := hst (bits .xor .u8 z 85)
      have sq := rq'.other (a := ⟨g, j, none⟩) hgl (.int .u8 (bits .xor .u8 z 85))
      have sb := bw.setCell (p := ⟨g, j, none⟩) hge (.int .u8 (bits .xor .u8 z 85))
      have HS := Lib.hid (And.intro st (And.intro sq sb))
      clear st sq sb hst rq' bw rp'
      go_wp2_with (first | (at_make; refine Stop.un ?_) | (at_builtin; refine Stop.un ?_) | (with_reducible refine Stop.conv 22 9 ?_) | (with_reducible refine Stop.conv 9 22 ?_))
      go_roundw
      case rel =>
        obtain ⟨st, sq, sb⟩ := HS.out
        exact ⟨j + 1, by omega, by go_num, st, sq, sb⟩
      case measure => simp [intOf]; omega
    · have hge : n2 ≤ j := by omega
      clear hlt rp' rp rq
      go_wp2_with (first | (at_make; refine Stop.un ?_) | (at_builtin; refine Stop.un ?_) | (with_reducible refine Stop.conv 22 9 ?_) | (with_reducible refine Stop.conv 9 22 ?_))
      go_loopw [77] (fun c wr => ∃ j : Nat, j ≤ n3 ∧ c = .int .i64 (j : Int) ∧ NumRow .u8 wr w2.heap.size 5 (.slice ao3 n3 cap3) n3 ∧ Below w.heap.size w wr) (fun c _ => n3 - (intOf c).toNat)
      case atStart => exact ⟨0, by omega, rfl, rq', bw⟩
      case round =>
        clear rq' bw
        obtain ⟨i, hi, rfl, rq', bw⟩ := hrel
        by_cases hlt : i < n3
        · obtain ⟨g, z, hg, hgr, hcell, hfree, hst⟩ := rq'.at hlt
          subst hg
          have st := hst (bits .xor .u8 z 85)
          have sb := bw.setCell (p := ⟨g, i, none⟩) (Nat.le_trans b2.size hgr) (.int .u8 (bits .xor .u8 z 85))
          have HS := Lib.hid (And.intro st sb)
          clear st sb hst bw rq'
          go_wp2_with (first | (at_make; refine Stop.un ?_) | (at_builtin; refine Stop.un ?_) | (with_reducible refine Stop.conv 22 9 ?_) | (with_reducible refine Stop.conv 9 22 ?_))
          go_roundw
          case rel =>
            obtain ⟨st, sb⟩ := HS.out
            exact ⟨i + 1, by omega, by go_num, st, sb⟩
          case measure => simp [intOf]; omega
        · have hgr : n3 ≤ i := by omega
          have hxe := hx0.mono bw (Nat.le_refl _)
          clear hlt rq'
          go_wp2_with (first | (at_make; refine Stop.un ?_) | (at_builtin; refine Stop.un ?_) | (with_reducible refine Stop.conv 22 9 ?_) | (with_reducible refine Stop.conv 9 22 ?_))
          refine Stop.mk (wpList_conv Try.underlying22 Try.underlying5 Try.underlying9 _ rfl rfl rfl Hx.out hxe ?_)
          go_wp2_with (first | (at_make; refine Stop.un ?_) | (at_builtin; refine Stop.un ?_) | (with_reducible refine Stop.conv 22 9 ?_) | (with_reducible refine Stop.conv 9 22 ?_))
          go_ret
          exact ⟨rfl, bw⟩
end Go.Proofs.Ytpbcjiabglfihaa
