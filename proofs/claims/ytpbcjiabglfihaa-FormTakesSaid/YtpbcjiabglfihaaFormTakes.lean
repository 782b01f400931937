/- FormTakes. -/
import Derived.Test.YtpbcjiabglfihaaLay
import Derived.Test.YtpbcjiabglfihaaMix
import Derived.Test.YtpbcjiabglfihaaRdrT
import Derived.Test.YtpbcjiabglfihaaRRdrT
set_option linter.unusedVariables false
namespace Go.Proofs.Ytpbcjiabglfihaa
open Go.RowKit
set_option maxHeartbeats 4000000 in
set_option maxRecDepth 100000 in
theorem formTakes_any (ao : Option Addr) (m cap : Nat) (bs : List UInt8) (sa : Option Addr) (ns caps : Nat) (ss : List UInt8) (w : World) (hc : Cs w ao (bcells bs)) (hm : bs.length = m) (hcap : m ≤ cap) (hcm : cap ≤ maxLen)
    (hcs : Cs w sa (bcells ss)) (hms : ss.length = ns) (hns : ns ≤ 140737488355328) :
    Calls Try.prog 7 #[.slice ao m cap, .slice sa ns caps] w (fun e w' => e = .returned (.bool true) ∧ Below w.heap.size w w') := by
  have Hm := Lib.hid hm; clear hm
  have Hms := Lib.hid hms; clear hms
  have hst := strOf_toList'
  go_enter Try.func7, Try.ntmps7
  go_wp2_with (first | (at_make; refine Stop.un ?_) | (at_builtin; refine Stop.un ?_) | (with_reducible refine Stop.conv 22 9 ?_) | (with_reducible refine Stop.conv 9 22 ?_))
  refine (shown_any _).mono ?_
  rintro e w1 ⟨rfl, b1⟩
  go_wp2_with (first | (at_make; refine Stop.un ?_) | (at_builtin; refine Stop.un ?_) | (with_reducible refine Stop.conv 22 9 ?_) | (with_reducible refine Stop.conv 9 22 ?_))
  refine (few_any ao m cap _ hcap hcm).mono ?_
  rintro e w9 ⟨rfl, rfl⟩
  have hx0 := hc.take (min m 3000)
  rw [show (bcells bs).take (min m 3000) = bcells (bs.take (min m 3000)) from by simp [bcells]] at hx0
  have hxl : (bs.take (min m 3000)).length = min m 3000 := by rw [List.length_take, Hm.out]; omega
  have hk : min m 3000 ≤ 3000 := Nat.min_le_right _ _
  generalize bs.take (min m 3000) = xs at hx0 hxl
  generalize min m 3000 = m' at hx0 hxl hk
  have hx := (hx0.mono b1 (Nat.le_refl _)).alloc (.cells #[] 5)
  have Hx := Lib.hid hxl
  clear hxl hc Hm hcap hcm bs hx0
  go_wp2_with (first | (at_make; refine Stop.un ?_) | (at_builtin; refine Stop.un ?_) | (with_reducible refine Stop.conv 22 9 ?_) | (with_reducible refine Stop.conv 9 22 ?_))
  have hO : OwnB w1 (w1.alloc (.cells #[] 5)) (.slice (some ⟨w1.heap.size, 0, none⟩) 0 0) 0 [] := Own.block (Below.refl _ _) rfl (by decide)
  refine Stop.mk (app_bs w1 _ _ rfl rfl hO rfl rfl Hx.out hx (by omega) ?_)
  intro ao2 cap2 w2 hO2
  simp only [Nat.zero_add, List.nil_append] at hO2
  clear hO hx
  have hw1 : w.heap.size ≤ w1.heap.size := b1.size
  have hw2 : w1.heap.size ≤ w2.heap.size := Own.le hO2
  have b2 := b1.next (Own.below hO2)
  clear b1
  go_wp2_with (first | (at_make; refine Stop.un ?_) | (at_builtin; refine Stop.un ?_) | (with_reducible refine Stop.conv 22 9 ?_) | (with_reducible refine Stop.conv 9 22 ?_))
  refine (newo_any ao2 m' cap2 xs _ (Own.cs hO2) Hx.out (by omega)).mono ?_
  rintro e w3 ⟨g1, rfl, hg1, hr1, b23⟩
  have hO3 := Own.keep hO2 b23
  have b3 := b2.next b23
  have hlt2 := Own.lt hO2
  have HLT := Lib.hid hlt2
  have hw3 : w2.heap.size ≤ w3.heap.size := b23.size
  clear hO2 b2 b23 hlt2
  go_wp2_with (first | (at_make; refine Stop.un ?_) | (at_builtin; refine Stop.un ?_) | (with_reducible refine Stop.conv 22 9 ?_) | (with_reducible refine Stop.conv 9 22 ?_))
  have hO : OwnB w3 (w3.alloc (.cells #[] 5)) (.slice (some ⟨w3.heap.size, 0, none⟩) 0 0) 0 [] := Own.block (Below.refl _ _) rfl (by decide)
  refine Stop.mk (app_bs w3 _ _ rfl rfl hO rfl rfl Hx.out ((Own.cs hO3).alloc _) (by omega) ?_)
  intro ao4 cap4 w4 hO4
  simp only [Nat.zero_add, List.nil_append] at hO4
  clear hO
  have b4 := b3.next (Own.below hO4)
  have hr1' := hr1.below (Own.below hO4)
  have hO34 := Own.keep hO3 (Own.below hO4)
  have hw4 : w3.heap.size ≤ w4.heap.size := Own.le hO4
  have hr2 : Rdr 41 w3.heap.size (w4.heap.size + 1) (w4.alloc (.cells #[.slice ao4 m' cap4, .bool false] 41)) w4.heap.size xs false := by
    have hlt := Own.lt hO4
    have hge := Own.ge hO4
    refine ⟨ao4, m', cap4, _root_.Go.heap_alloc_new w4 _, Hx.out, owns_le hO4.1, by omega, (Own.cs hO4).alloc _, ⟨hw4, by omega⟩, ?_⟩
    intro a ha
    have h1 := hlt a.block (by subst ha; rfl)
    have h2 := hge a.block (by subst ha; rfl)
    exact ⟨by omega, h2, by omega⟩
  have hr1'' := hr1'.below ((Below.refl _ _).alloc (Nat.le_refl _) (.cells #[.slice ao4 m' cap4, .bool false] 41))
  have hrow : NumRow .u8 (w4.alloc (.cells #[.slice ao4 m' cap4, .bool false] 41)) w1.heap.size 5 (.slice ao2 m' cap2) m' := ⟨_, fun u hu => (by obtain ⟨c, _, rfl⟩ := List.mem_map.1 hu; exact ⟨_, rfl⟩), (Own.alloc hO34 _).1⟩
  have b5 := b4.alloc b4.size (.cells #[.slice ao4 m' cap4, .bool false] 41)
  clear hr1 hO3 b3 hO4 b4 hr1' hO34
  go_wp2_with (first | (at_make; refine Stop.un ?_) | (at_builtin; refine Stop.un ?_) | (with_reducible refine Stop.conv 22 9 ?_) | (with_reducible refine Stop.conv 9 22 ?_))
  generalize hW5 : w4.alloc (.cells #[.slice ao4 m' cap4, .bool false] 41) = w5 at hr1'' hr2 hrow b5
  clear hW5
  generalize w4.heap.size = g2 at hr2 hw4
  have hg11 : g1 < w3.heap.size := hr1''.ge.2
  go_loopw [29] (fun c wr => ∃ j : Nat, j ≤ m' ∧ c = .int .i64 (j : Int) ∧ NumRow .u8 wr w1.heap.size 5 (.slice ao2 m' cap2) m' ∧ Rdr 49 w2.heap.size w3.heap.size wr g1 xs false ∧ Rdr 41 w3.heap.size (g2 + 1) wr g2 xs false ∧ Below w.heap.size w wr) (fun c _ => m' - (intOf c).toNat)
  case atStart => exact ⟨0, by omega, rfl, hrow, hr1'', hr2, b5⟩
  case round =>
    clear hrow hr1'' hr2 b5 w5
    obtain ⟨j, hj, rfl, hrow, hr1, hr2, bw⟩ := hrel
    by_cases hlt : j < m'
    · obtain ⟨g, z, hg, hge, hcell, hfree, hst0⟩ := hrow.at hlt
      subst hg
      have hgl : g < w2.heap.size := HLT.out g rfl
      have st := hst0 (bits .xor .u8 z 85)
      have s1 := hr1.other (grown_set wr g j (.int .u8 (bits .xor .u8 z 85))) (.inl hgl)
      have s2 := hr2.other (grown_set wr g j (.int .u8 (bits .xor .u8 z 85))) (.inl (by omega))
      have sb := bw.setCell (p := ⟨g, j, none⟩) (Nat.le_trans hw1 hge) (.int .u8 (bits .xor .u8 z 85))
      have HS := Lib.hid (And.intro st (And.intro s1 (And.intro s2 sb)))
      clear st s1 s2 sb hst0 bw hrow hr1 hr2
      go_wp2_with (first | (at_make; refine Stop.un ?_) | (at_builtin; refine Stop.un ?_) | (with_reducible refine Stop.conv 22 9 ?_) | (with_reducible refine Stop.conv 9 22 ?_))
      go_roundw
      case rel =>
        obtain ⟨st, s1, s2, sb⟩ := HS.out
        exact ⟨j + 1, by omega, by go_num, st, s1, s2, sb⟩
      case measure => simp [intOf]; omega
    · have hge : m' ≤ j := by omega
      clear hlt hrow
      have hjm : decide (j < m') = false := by simp; omega
      go_wp2_with (first | (at_make; refine Stop.un ?_) | (at_builtin; refine Stop.un ?_) | (with_reducible refine Stop.conv 22 9 ?_) | (with_reducible refine Stop.conv 9 22 ?_))
      clear hge hjm
      go_loopw [41] (fun c wr => ∃ (i : Nat) (l : List UInt8) (bad : Bool), i ≤ ns ∧ c = .int .i64 (i : Int) ∧ Rdr 49 w2.heap.size w3.heap.size wr g1 l bad ∧ Rdr 41 w3.heap.size (g2 + 1) wr g2 l bad ∧ Below w.heap.size w wr) (fun c _ => ns - (intOf c).toNat)
      case atStart => exact ⟨0, xs, false, by omega, rfl, hr1, hr2, bw⟩
      case round =>
        clear hr1 hr2 bw
        obtain ⟨i, l, bad, hi, rfl, hr1, hr2, bw⟩ := hrel
        by_cases hlt : i < ns
        · by_cases h200 : 200 ≤ i
          · obtain ⟨b, o, rfl⟩ := hcs.addr (by simp [bcells, Hms.out]; omega)
            have hil : i < ss.length := by have := Hms.out; omega
            have hcell := (hcs.mono bw (Nat.le_refl _)).at (j := i) (u := .int .u8 (ss[i].toNat : Int)) (by simp [bcells, hil])
            have Hil := Lib.hid hil
            generalize ss[i].toNat = z at hcell
            go_wp2_with (first | (at_make; refine Stop.un ?_) | (at_builtin; refine Stop.un ?_) | (with_reducible refine Stop.conv 22 9 ?_) | (with_reducible refine Stop.conv 9 22 ?_))
            go_ret
            exact ⟨rfl, bw⟩
          · have h200' : (i : Int) < 200 := by omega
            clear h200
            obtain ⟨b, o, rfl⟩ := hcs.addr (by simp [bcells, Hms.out]; omega)
            have hil : i < ss.length := by have := Hms.out; omega
            have hcell := (hcs.mono bw (Nat.le_refl _)).at (j := i) (u := .int .u8 (ss[i].toNat : Int)) (by simp [bcells, hil])
            have Hil := Lib.hid hil
            generalize ss[i].toNat = z at hcell
            have hw4' : w.heap.size ≤ g1 := by omega
            have hw5' : w.heap.size ≤ g2 := by omega
            have hz : z % 3 = 0 ∨ z % 3 = 1 ∨ z % 3 = 2 := by omega
            rcases hz with hz | hz | hz
            · have hz0 : ((z : Int) % 3 == 0) = true := by simp; omega
              have hz1 : ((z : Int) % 3 == 1) = false := by simp; omega
              clear hz
              go_wp2_with (first | (at_make; refine Stop.un ?_) | (at_builtin; refine Stop.un ?_) | (with_reducible refine Stop.conv 22 9 ?_) | (with_reducible refine Stop.conv 9 22 ?_))
              refine (rnumo_any _ _ _ g1 l bad _ hr1).mono ?_
              rintro e w6 ⟨rfl, hr1', hg6⟩
              have hr2' := hr2.other hg6 (.inl hg11)
              have bw6 := bw.one hg6 hw4' (Nat.le_refl _)
              clear hr1 hr2 bw hg6
              go_wp2_with (first | (at_make; refine Stop.un ?_) | (at_builtin; refine Stop.un ?_) | (with_reducible refine Stop.conv 22 9 ?_) | (with_reducible refine Stop.conv 9 22 ?_))
              refine (rrnum_any _ _ _ g2 l bad _ hr2').mono ?_
              rintro e w7 ⟨rfl, hr2, hg7⟩
              have hr1 := hr1'.other hg7 (.inr hw4)
              have bw7 := bw6.one hg7 hw5' (Nat.le_refl _)
              clear hr1' hr2' bw6 hg7
              generalize rdRest l = l' at hr1 hr2
              generalize (bad || rdBad l) = bad' at hr1 hr2
              go_wp2_with (first | (at_make; refine Stop.un ?_) | (at_builtin; refine Stop.un ?_) | (with_reducible refine Stop.conv 22 9 ?_) | (with_reducible refine Stop.conv 9 22 ?_))
              refine mix_startE 28 rfl (by kernel_rfl) ?_
              intro x hX
              have hr1x := hr1.below hX
              have hr2x := hr2.below hX
              have bwx := bw7.next hX
              clear hr1 hr2 bw7 hX
              obtain ⟨ao5, n5, cap5, hh5, hl5, -⟩ := id hr2x
              subst hl5
              have h50 := cell_of hh5 0
              have h51 := cell_of hh5 1
              simp at h50 h51
              clear hh5
              refine mix_quiet Keeps.ext 0 rfl (by kernel_rfl) rfl ?_
              intro ι U hne hU
              go_big_quiet_op
              clear hU hne U ι
              show wpAnyM _ _ _ _ _ _ _ _ _
              refine mix_quiet Keeps.ext 1 rfl (by kernel_rfl) rfl ?_
              intro ι U hne hU
              go_big_quiet_op
              clear hU hne U ι
              show wpAnyM _ _ _ _ _ _ _ _ _
              refine mix_quiet Keeps.ext 2 rfl (by kernel_rfl) rfl ?_
              intro ι U hne hU
              go_big_quiet_op
              clear hU hne U ι
              show wpAnyM _ _ _ _ _ _ _ _ _
              refine mix_quiet Keeps.ext 3 rfl (by kernel_rfl) rfl ?_
              intro ι U hne hU
              go_big_quiet_op
              clear hU hne U ι
              show wpAnyM _ _ _ _ _ _ _ _ _
              refine mix_quiet Keeps.ext 5 rfl (by kernel_rfl) rfl ?_
              intro ι U hne hU
              go_big_quiet_op
              clear hU hne U ι
              show wpAnyM _ _ _ _ _ _ _ _ _
              refine mix_quiet Keeps.ext 6 rfl (by kernel_rfl) rfl ?_
              intro ι U hne hU
              go_big_quiet_op
              clear hU hne U ι
              show wpAnyM _ _ _ _ _ _ _ _ _
              refine mix_quiet Keeps.ext 7 rfl (by kernel_rfl) rfl ?_
              intro ι U hne hU
              go_big_quiet_op
              clear hU hne U ι
              show wpAnyM _ _ _ _ _ _ _ _ _
              refine mix_quiet Keeps.ext 8 rfl (by kernel_rfl) rfl ?_
              intro ι U hne hU
              have hcv := fun k => ((hU k).cell h51)
              go_big_quiet_op
              clear hU hne hcv U ι
              show wpAnyM _ _ _ _ _ _ _ _ _
              refine mix_any 4 rfl (by kernel_rfl) rfl ?_
              go_wp2_with (first | (at_make; refine Stop.un ?_) | (at_builtin; refine Stop.un ?_) | (with_reducible refine Stop.conv 22 9 ?_) | (with_reducible refine Stop.conv 9 22 ?_))
              refine (rbado_any _ _ _ g1 _ _ _ hr1x).mono ?_
              rintro e w9 ⟨rfl, rfl⟩
              go_wp2_with (first | (at_make; refine Stop.un ?_) | (at_builtin; refine Stop.un ?_) | (with_reducible refine Stop.conv 22 9 ?_) | (with_reducible refine Stop.conv 9 22 ?_))
              refine MixPost.mk (Ext.refl _) ?_
              refine mix_quiet Keeps.ext 9 rfl (by kernel_rfl) rfl ?_
              intro ι U hne hU
              go_big_quiet_op
              clear hU hne U ι
              show wpAnyM _ _ _ _ _ _ _ _ _
              refine mix_quiet Keeps.ext 10 rfl (by kernel_rfl) rfl ?_
              intro ι U hne hU
              go_big_quiet_op
              clear hU hne U ι
              show wpAnyM _ _ _ _ _ _ _ _ _
              refine mix_quiet Keeps.ext 11 rfl (by kernel_rfl) rfl ?_
              intro ι U hne hU
              go_big_quiet_op
              clear hU hne U ι
              show wpAnyM _ _ _ _ _ _ _ _ _
              refine mix_quiet Keeps.ext 12 rfl (by kernel_rfl) rfl ?_
              intro ι U hne hU
              go_big_quiet_op
              clear hU hne U ι
              show wpAnyM _ _ _ _ _ _ _ _ _
              refine mix_quiet Keeps.ext 14 rfl (by kernel_rfl) rfl ?_
              intro ι U hne hU
              go_big_quiet_op
              clear hU hne U ι
              show wpAnyM _ _ _ _ _ _ _ _ _
              refine mix_quiet Keeps.ext 15 rfl (by kernel_rfl) rfl ?_
              intro ι U hne hU
              go_big_quiet_op
              clear hU hne U ι
              show wpAnyM _ _ _ _ _ _ _ _ _
              refine mix_quiet Keeps.ext 16 rfl (by kernel_rfl) rfl ?_
              intro ι U hne hU
              go_big_quiet_op
              clear hU hne U ι
              show wpAnyM _ _ _ _ _ _ _ _ _
              refine mix_quiet Keeps.ext 17 rfl (by kernel_rfl) rfl ?_
              intro ι U hne hU
              have hcv := fun k => ((hU k).cell h50)
              go_big_quiet_op
              clear hU hne hcv U ι
              show wpAnyM _ _ _ _ _ _ _ _ _
              refine mix_quiet Keeps.ext 18 rfl (by kernel_rfl) rfl ?_
              intro ι U hne hU
              go_big_quiet_op
              clear hU hne U ι
              show wpAnyM _ _ _ _ _ _ _ _ _
              refine mix_any 13 rfl (by kernel_rfl) rfl ?_
              go_wp2_with (first | (at_make; refine Stop.un ?_) | (at_builtin; refine Stop.un ?_) | (with_reducible refine Stop.conv 22 9 ?_) | (with_reducible refine Stop.conv 9 22 ?_))
              refine (rlefto_any _ _ _ g1 _ _ _ hr1x).mono ?_
              rintro e w9 ⟨rfl, rfl⟩
              go_wp2_with (first | (at_make; refine Stop.un ?_) | (at_builtin; refine Stop.un ?_) | (with_reducible refine Stop.conv 22 9 ?_) | (with_reducible refine Stop.conv 9 22 ?_))
              refine MixPost.mk (Ext.refl _) ?_
              refine mix_quiet Keeps.ext 19 rfl (by kernel_rfl) rfl ?_
              intro ι U hne hU
              go_big_quiet_op
              clear hU hne U ι
              show wpAnyM _ _ _ _ _ _ _ _ _
              refine mix_quiet Keeps.ext 20 rfl (by kernel_rfl) rfl ?_
              intro ι U hne hU
              go_big_quiet_op
              clear hU hne U ι
              show wpAnyM _ _ _ _ _ _ _ _ _
              refine mix_quiet Keeps.ext 21 rfl (by kernel_rfl) rfl ?_
              intro ι U hne hU
              go_big_quiet_op
              clear hU hne U ι
              show wpAnyM _ _ _ _ _ _ _ _ _
              refine mix_quiet Keeps.ext 22 rfl (by kernel_rfl) rfl ?_
              intro ι U hne hU
              go_big_quiet_op
              clear hU hne U ι
              show wpAnyM _ _ _ _ _ _ _ _ _
              refine mix_quiet Keeps.ext 24 rfl (by kernel_rfl) rfl ?_
              intro ι U hne hU
              go_big_quiet_op
              clear hU hne U ι
              show wpAnyM _ _ _ _ _ _ _ _ _
              refine mix_any 23 rfl (by kernel_rfl) rfl ?_
              go_wp2_with (first | (at_make; refine Stop.un ?_) | (at_builtin; refine Stop.un ?_) | (with_reducible refine Stop.conv 22 9 ?_) | (with_reducible refine Stop.conv 9 22 ?_))
              refine (rendo_any _ _ _ g1 _ _ _ hr1x).mono ?_
              rintro e w9 ⟨rfl, rfl⟩
              go_wp2_with (first | (at_make; refine Stop.un ?_) | (at_builtin; refine Stop.un ?_) | (with_reducible refine Stop.conv 22 9 ?_) | (with_reducible refine Stop.conv 9 22 ?_))
              refine MixPost.mk (Ext.refl _) ?_
              refine mix_any 25 rfl (by kernel_rfl) rfl ?_
              go_wp2_with (first | (at_make; refine Stop.un ?_) | (at_builtin; refine Stop.un ?_) | (with_reducible refine Stop.conv 22 9 ?_) | (with_reducible refine Stop.conv 9 22 ?_))
              refine (rrend_any _ _ _ g2 _ _ _ hr2x).mono ?_
              rintro e w9 ⟨rfl, rfl⟩
              go_wp2_with (first | (at_make; refine Stop.un ?_) | (at_builtin; refine Stop.un ?_) | (with_reducible refine Stop.conv 22 9 ?_) | (with_reducible refine Stop.conv 9 22 ?_))
              refine MixPost.mk (Ext.refl _) ?_
              refine mix_quiet Keeps.ext 26 rfl (by kernel_rfl) rfl ?_
              intro ι U hne hU
              go_big_quiet_op
              clear hU hne U ι
              show wpAnyM _ _ _ _ _ _ _ _ _
              refine mix_quiet Keeps.ext 27 rfl (by kernel_rfl) rfl ?_
              intro ι U hne hU
              go_big_quiet_op
              clear hU hne U ι
              show wpAnyM _ _ _ _ _ _ _ _ _
              refine mix_end (by kernel_rfl) ?_
              go_wp2_with (first | (at_make; refine Stop.un ?_) | (at_builtin; refine Stop.un ?_) | (with_reducible refine Stop.conv 22 9 ?_) | (with_reducible refine Stop.conv 9 22 ?_))
              go_roundw
              case rel => exact ⟨i + 1, l', bad', by omega, by go_num, hr1x, hr2x, bwx⟩
              case measure => simp [intOf]; omega
            · have hz0 : ((z : Int) % 3 == 0) = false := by simp; omega
              have hz1 : ((z : Int) % 3 == 1) = true := by simp; omega
              clear hz
              go_wp2_with (first | (at_make; refine Stop.un ?_) | (at_builtin; refine Stop.un ?_) | (with_reducible refine Stop.conv 22 9 ?_) | (with_reducible refine Stop.conv 9 22 ?_))
              refine (rinto_any _ _ _ g1 l bad _ hr1).mono ?_
              rintro e w6 ⟨rfl, hr1', hg6⟩
              have hr2' := hr2.other hg6 (.inl hg11)
              have bw6 := bw.one hg6 hw4' (Nat.le_refl _)
              clear hr1 hr2 bw hg6
              go_wp2_with (first | (at_make; refine Stop.un ?_) | (at_builtin; refine Stop.un ?_) | (with_reducible refine Stop.conv 22 9 ?_) | (with_reducible refine Stop.conv 9 22 ?_))
              refine (rrint_any _ _ _ g2 l bad _ hr2').mono ?_
              rintro e w7 ⟨rfl, hr2, hg7⟩
              have hr1 := hr1'.other hg7 (.inr hw4)
              have bw7 := bw6.one hg7 hw5' (Nat.le_refl _)
              clear hr1' hr2' bw6 hg7
              generalize rdRest l = l' at hr1 hr2
              generalize (bad || rdBad l) = bad' at hr1 hr2
              go_wp2_with (first | (at_make; refine Stop.un ?_) | (at_builtin; refine Stop.un ?_) | (with_reducible refine Stop.conv 22 9 ?_) | (with_reducible refine Stop.conv 9 22 ?_))
              refine mix_startE 28 rfl (by kernel_rfl) ?_
              intro x hX
              have hr1x := hr1.below hX
              have hr2x := hr2.below hX
              have bwx := bw7.next hX
              clear hr1 hr2 bw7 hX
              obtain ⟨ao5, n5, cap5, hh5, hl5, -⟩ := id hr2x
              subst hl5
              have h50 := cell_of hh5 0
              have h51 := cell_of hh5 1
              simp at h50 h51
              clear hh5
              refine mix_quiet Keeps.ext 0 rfl (by kernel_rfl) rfl ?_
              intro ι U hne hU
              go_big_quiet_op
              clear hU hne U ι
              show wpAnyM _ _ _ _ _ _ _ _ _
              refine mix_quiet Keeps.ext 1 rfl (by kernel_rfl) rfl ?_
              intro ι U hne hU
              go_big_quiet_op
              clear hU hne U ι
              show wpAnyM _ _ _ _ _ _ _ _ _
              refine mix_quiet Keeps.ext 2 rfl (by kernel_rfl) rfl ?_
              intro ι U hne hU
              go_big_quiet_op
              clear hU hne U ι
              show wpAnyM _ _ _ _ _ _ _ _ _
              refine mix_quiet Keeps.ext 3 rfl (by kernel_rfl) rfl ?_
              intro ι U hne hU
              go_big_quiet_op
              clear hU hne U ι
              show wpAnyM _ _ _ _ _ _ _ _ _
              refine mix_quiet Keeps.ext 5 rfl (by kernel_rfl) rfl ?_
              intro ι U hne hU
              go_big_quiet_op
              clear hU hne U ι
              show wpAnyM _ _ _ _ _ _ _ _ _
              refine mix_quiet Keeps.ext 6 rfl (by kernel_rfl) rfl ?_
              intro ι U hne hU
              go_big_quiet_op
              clear hU hne U ι
              show wpAnyM _ _ _ _ _ _ _ _ _
              refine mix_quiet Keeps.ext 7 rfl (by kernel_rfl) rfl ?_
              intro ι U hne hU
              go_big_quiet_op
              clear hU hne U ι
              show wpAnyM _ _ _ _ _ _ _ _ _
              refine mix_quiet Keeps.ext 8 rfl (by kernel_rfl) rfl ?_
              intro ι U hne hU
              have hcv := fun k => ((hU k).cell h51)
              go_big_quiet_op
              clear hU hne hcv U ι
              show wpAnyM _ _ _ _ _ _ _ _ _
              refine mix_any 4 rfl (by kernel_rfl) rfl ?_
              go_wp2_with (first | (at_make; refine Stop.un ?_) | (at_builtin; refine Stop.un ?_) | (with_reducible refine Stop.conv 22 9 ?_) | (with_reducible refine Stop.conv 9 22 ?_))
              refine (rbado_any _ _ _ g1 _ _ _ hr1x).mono ?_
              rintro e w9 ⟨rfl, rfl⟩
              go_wp2_with (first | (at_make; refine Stop.un ?_) | (at_builtin; refine Stop.un ?_) | (with_reducible refine Stop.conv 22 9 ?_) | (with_reducible refine Stop.conv 9 22 ?_))
              refine MixPost.mk (Ext.refl _) ?_
              refine mix_quiet Keeps.ext 9 rfl (by kernel_rfl) rfl ?_
              intro ι U hne hU
              go_big_quiet_op
              clear hU hne U ι
              show wpAnyM _ _ _ _ _ _ _ _ _
              refine mix_quiet Keeps.ext 10 rfl (by kernel_rfl) rfl ?_
              intro ι U hne hU
              go_big_quiet_op
              clear hU hne U ι
              show wpAnyM _ _ _ _ _ _ _ _ _
              refine mix_quiet Keeps.ext 11 rfl (by kernel_rfl) rfl ?_
              intro ι U hne hU
              go_big_quiet_op
              clear hU hne U ι
              show wpAnyM _ _ _ _ _ _ _ _ _
              refine mix_quiet Keeps.ext 12 rfl (by kernel_rfl) rfl ?_
              intro ι U hne hU
              go_big_quiet_op
              clear hU hne U ι
              show wpAnyM _ _ _ _ _ _ _ _ _
              refine mix_quiet Keeps.ext 14 rfl (by kernel_rfl) rfl ?_
              intro ι U hne hU
              go_big_quiet_op
              clear hU hne U ι
              show wpAnyM _ _ _ _ _ _ _ _ _
              refine mix_quiet Keeps.ext 15 rfl (by kernel_rfl) rfl ?_
              intro ι U hne hU
              go_big_quiet_op
              clear hU hne U ι
              show wpAnyM _ _ _ _ _ _ _ _ _
              refine mix_quiet Keeps.ext 16 rfl (by kernel_rfl) rfl ?_
              intro ι U hne hU
              go_big_quiet_op
              clear hU hne U ι
              show wpAnyM _ _ _ _ _ _ _ _ _
              refine mix_quiet Keeps.ext 17 rfl (by kernel_rfl) rfl ?_
              intro ι U hne hU
              have hcv := fun k => ((hU k).cell h50)
              go_big_quiet_op
              clear hU hne hcv U ι
              show wpAnyM _ _ _ _ _ _ _ _ _
              refine mix_quiet Keeps.ext 18 rfl (by kernel_rfl) rfl ?_
              intro ι U hne hU
              go_big_quiet_op
              clear hU hne U ι
              show wpAnyM _ _ _ _ _ _ _ _ _
              refine mix_any 13 rfl (by kernel_rfl) rfl ?_
              go_wp2_with (first | (at_make; refine Stop.un ?_) | (at_builtin; refine Stop.un ?_) | (with_reducible refine Stop.conv 22 9 ?_) | (with_reducible refine Stop.conv 9 22 ?_))
              refine (rlefto_any _ _ _ g1 _ _ _ hr1x).mono ?_
              rintro e w9 ⟨rfl, rfl⟩
              go_wp2_with (first | (at_make; refine Stop.un ?_) | (at_builtin; refine Stop.un ?_) | (with_reducible refine Stop.conv 22 9 ?_) | (with_reducible refine Stop.conv 9 22 ?_))
              refine MixPost.mk (Ext.refl _) ?_
              refine mix_quiet Keeps.ext 19 rfl (by kernel_rfl) rfl ?_
              intro ι U hne hU
              go_big_quiet_op
              clear hU hne U ι
              show wpAnyM _ _ _ _ _ _ _ _ _
              refine mix_quiet Keeps.ext 20 rfl (by kernel_rfl) rfl ?_
              intro ι U hne hU
              go_big_quiet_op
              clear hU hne U ι
              show wpAnyM _ _ _ _ _ _ _ _ _
              refine mix_quiet Keeps.ext 21 rfl (by kernel_rfl) rfl ?_
              intro ι U hne hU
              go_big_quiet_op
              clear hU hne U ι
              show wpAnyM _ _ _ _ _ _ _ _ _
              refine mix_quiet Keeps.ext 22 rfl (by kernel_rfl) rfl ?_
              intro ι U hne hU
              go_big_quiet_op
              clear hU hne U ι
              show wpAnyM _ _ _ _ _ _ _ _ _
              refine mix_quiet Keeps.ext 24 rfl (by kernel_rfl) rfl ?_
              intro ι U hne hU
              go_big_quiet_op
              clear hU hne U ι
              show wpAnyM _ _ _ _ _ _ _ _ _
              refine mix_any 23 rfl (by kernel_rfl) rfl ?_
              go_wp2_with (first | (at_make; refine Stop.un ?_) | (at_builtin; refine Stop.un ?_) | (with_reducible refine Stop.conv 22 9 ?_) | (with_reducible refine Stop.conv 9 22 ?_))
              refine (rendo_any _ _ _ g1 _ _ _ hr1x).mono ?_
              rintro e w9 ⟨rfl, rfl⟩
              go_wp2_with (first | (at_make; refine Stop.un ?_) | (at_builtin; refine Stop.un ?_) | (with_reducible refine Stop.conv 22 9 ?_) | (with_reducible refine Stop.conv 9 22 ?_))
              refine MixPost.mk (Ext.refl _) ?_
              refine mix_any 25 rfl (by kernel_rfl) rfl ?_
              go_wp2_with (first | (at_make; refine Stop.un ?_) | (at_builtin; refine Stop.un ?_) | (with_reducible refine Stop.conv 22 9 ?_) | (with_reducible refine Stop.conv 9 22 ?_))
              refine (rrend_any _ _ _ g2 _ _ _ hr2x).mono ?_
              rintro e w9 ⟨rfl, rfl⟩
              go_wp2_with (first | (at_make; refine Stop.un ?_) | (at_builtin; refine Stop.un ?_) | (with_reducible refine Stop.conv 22 9 ?_) | (with_reducible refine Stop.conv 9 22 ?_))
              refine MixPost.mk (Ext.refl _) ?_
              refine mix_quiet Keeps.ext 26 rfl (by kernel_rfl) rfl ?_
              intro ι U hne hU
              go_big_quiet_op
              clear hU hne U ι
              show wpAnyM _ _ _ _ _ _ _ _ _
              refine mix_quiet Keeps.ext 27 rfl (by kernel_rfl) rfl ?_
              intro ι U hne hU
              go_big_quiet_op
              clear hU hne U ι
              show wpAnyM _ _ _ _ _ _ _ _ _
              refine mix_end (by kernel_rfl) ?_
              go_wp2_with (first | (at_make; refine Stop.un ?_) | (at_builtin; refine Stop.un ?_) | (with_reducible refine Stop.conv 22 9 ?_) | (with_reducible refine Stop.conv 9 22 ?_))
              go_roundw
              case rel => exact ⟨i + 1, l', bad', by omega, by go_num, hr1x, hr2x, bwx⟩
              case measure => simp [intOf]; omega
            · have hz0 : ((z : Int) % 3 == 0) = false := by simp; omega
              have hz1 : ((z : Int) % 3 == 1) = false := by simp; omega
              clear hz
              go_wp2_with (first | (at_make; refine Stop.un ?_) | (at_builtin; refine Stop.un ?_) | (with_reducible refine Stop.conv 22 9 ?_) | (with_reducible refine Stop.conv 9 22 ?_))
              refine (rtexto_any _ _ _ g1 l bad _ hr1).mono ?_
              rintro e w6 ⟨rfl, hr1', hg6⟩
              have hr2' := hr2.other hg6 (.inl hg11)
              have bw6 := bw.one hg6 hw4' (Nat.le_refl _)
              clear hr1 hr2 bw hg6
              go_wp2_with (first | (at_make; refine Stop.un ?_) | (at_builtin; refine Stop.un ?_) | (with_reducible refine Stop.conv 22 9 ?_) | (with_reducible refine Stop.conv 9 22 ?_))
              refine (rrtext_any _ _ _ g2 l bad _ hr2').mono ?_
              rintro e w7 ⟨rfl, hr2, hg7⟩
              have hr1 := hr1'.other hg7 (.inr hw4)
              have bw7 := bw6.one hg7 hw5' (Nat.le_refl _)
              clear hr1' hr2' bw6 hg7
              generalize rdTRest l = l' at hr1 hr2
              generalize (bad || rdTBad l) = bad' at hr1 hr2
              go_wp2_with (first | (at_make; refine Stop.un ?_) | (at_builtin; refine Stop.un ?_) | (with_reducible refine Stop.conv 22 9 ?_) | (with_reducible refine Stop.conv 9 22 ?_))
              refine mix_startE 28 rfl (by kernel_rfl) ?_
              intro x hX
              have hr1x := hr1.below hX
              have hr2x := hr2.below hX
              have bwx := bw7.next hX
              clear hr1 hr2 bw7 hX
              obtain ⟨ao5, n5, cap5, hh5, hl5, -⟩ := id hr2x
              subst hl5
              have h50 := cell_of hh5 0
              have h51 := cell_of hh5 1
              simp at h50 h51
              clear hh5
              refine mix_quiet Keeps.ext 0 rfl (by kernel_rfl) rfl ?_
              intro ι U hne hU
              go_big_quiet_op
              clear hU hne U ι
              show wpAnyM _ _ _ _ _ _ _ _ _
              refine mix_quiet Keeps.ext 1 rfl (by kernel_rfl) rfl ?_
              intro ι U hne hU
              go_big_quiet_op
              clear hU hne U ι
              show wpAnyM _ _ _ _ _ _ _ _ _
              refine mix_quiet Keeps.ext 2 rfl (by kernel_rfl) rfl ?_
              intro ι U hne hU
              go_big_quiet_op
              clear hU hne U ι
              show wpAnyM _ _ _ _ _ _ _ _ _
              refine mix_quiet Keeps.ext 3 rfl (by kernel_rfl) rfl ?_
              intro ι U hne hU
              go_big_quiet_op
              clear hU hne U ι
              show wpAnyM _ _ _ _ _ _ _ _ _
              refine mix_quiet Keeps.ext 5 rfl (by kernel_rfl) rfl ?_
              intro ι U hne hU
              go_big_quiet_op
              clear hU hne U ι
              show wpAnyM _ _ _ _ _ _ _ _ _
              refine mix_quiet Keeps.ext 6 rfl (by kernel_rfl) rfl ?_
              intro ι U hne hU
              go_big_quiet_op
              clear hU hne U ι
              show wpAnyM _ _ _ _ _ _ _ _ _
              refine mix_quiet Keeps.ext 7 rfl (by kernel_rfl) rfl ?_
              intro ι U hne hU
              go_big_quiet_op
              clear hU hne U ι
              show wpAnyM _ _ _ _ _ _ _ _ _
              refine mix_quiet Keeps.ext 8 rfl (by kernel_rfl) rfl ?_
              intro ι U hne hU
              have hcv := fun k => ((hU k).cell h51)
              go_big_quiet_op
              clear hU hne hcv U ι
              show wpAnyM _ _ _ _ _ _ _ _ _
              refine mix_any 4 rfl (by kernel_rfl) rfl ?_
              go_wp2_with (first | (at_make; refine Stop.un ?_) | (at_builtin; refine Stop.un ?_) | (with_reducible refine Stop.conv 22 9 ?_) | (with_reducible refine Stop.conv 9 22 ?_))
              refine (rbado_any _ _ _ g1 _ _ _ hr1x).mono ?_
              rintro e w9 ⟨rfl, rfl⟩
              go_wp2_with (first | (at_make; refine Stop.un ?_) | (at_builtin; refine Stop.un ?_) | (with_reducible refine Stop.conv 22 9 ?_) | (with_reducible refine Stop.conv 9 22 ?_))
              refine MixPost.mk (Ext.refl _) ?_
              refine mix_quiet Keeps.ext 9 rfl (by kernel_rfl) rfl ?_
              intro ι U hne hU
              go_big_quiet_op
              clear hU hne U ι
              show wpAnyM _ _ _ _ _ _ _ _ _
              refine mix_quiet Keeps.ext 10 rfl (by kernel_rfl) rfl ?_
              intro ι U hne hU
              go_big_quiet_op
              clear hU hne U ι
              show wpAnyM _ _ _ _ _ _ _ _ _
              refine mix_quiet Keeps.ext 11 rfl (by kernel_rfl) rfl ?_
              intro ι U hne hU
              go_big_quiet_op
              clear hU hne U ι
              show wpAnyM _ _ _ _ _ _ _ _ _
              refine mix_quiet Keeps.ext 12 rfl (by kernel_rfl) rfl ?_
              intro ι U hne hU
              go_big_quiet_op
              clear hU hne U ι
              show wpAnyM _ _ _ _ _ _ _ _ _
              refine mix_quiet Keeps.ext 14 rfl (by kernel_rfl) rfl ?_
              intro ι U hne hU
              go_big_quiet_op
              clear hU hne U ι
              show wpAnyM _ _ _ _ _ _ _ _ _
              refine mix_quiet Keeps.ext 15 rfl (by kernel_rfl) rfl ?_
              intro ι U hne hU
              go_big_quiet_op
              clear hU hne U ι
              show wpAnyM _ _ _ _ _ _ _ _ _
              refine mix_quiet Keeps.ext 16 rfl (by kernel_rfl) rfl ?_
              intro ι U hne hU
              go_big_quiet_op
              clear hU hne U ι
              show wpAnyM _ _ _ _ _ _ _ _ _
              refine mix_quiet Keeps.ext 17 rfl (by kernel_rfl) rfl ?_
              intro ι U hne hU
              have hcv := fun k => ((hU k).cell h50)
              go_big_quiet_op
              clear hU hne hcv U ι
              show wpAnyM _ _ _ _ _ _ _ _ _
              refine mix_quiet Keeps.ext 18 rfl (by kernel_rfl) rfl ?_
              intro ι U hne hU
              go_big_quiet_op
              clear hU hne U ι
              show wpAnyM _ _ _ _ _ _ _ _ _
              refine mix_any 13 rfl (by kernel_rfl) rfl ?_
              go_wp2_with (first | (at_make; refine Stop.un ?_) | (at_builtin; refine Stop.un ?_) | (with_reducible refine Stop.conv 22 9 ?_) | (with_reducible refine Stop.conv 9 22 ?_))
              refine (rlefto_any _ _ _ g1 _ _ _ hr1x).mono ?_
              rintro e w9 ⟨rfl, rfl⟩
              go_wp2_with (first | (at_make; refine Stop.un ?_) | (at_builtin; refine Stop.un ?_) | (with_reducible refine Stop.conv 22 9 ?_) | (with_reducible refine Stop.conv 9 22 ?_))
              refine MixPost.mk (Ext.refl _) ?_
              refine mix_quiet Keeps.ext 19 rfl (by kernel_rfl) rfl ?_
              intro ι U hne hU
              go_big_quiet_op
              clear hU hne U ι
              show wpAnyM _ _ _ _ _ _ _ _ _
              refine mix_quiet Keeps.ext 20 rfl (by kernel_rfl) rfl ?_
              intro ι U hne hU
              go_big_quiet_op
              clear hU hne U ι
              show wpAnyM _ _ _ _ _ _ _ _ _
              refine mix_quiet Keeps.ext 21 rfl (by kernel_rfl) rfl ?_
              intro ι U hne hU
              go_big_quiet_op
              clear hU hne U ι
              show wpAnyM _ _ _ _ _ _ _ _ _
              refine mix_quiet Keeps.ext 22 rfl (by kernel_rfl) rfl ?_
              intro ι U hne hU
              go_big_quiet_op
              clear hU hne U ι
              show wpAnyM _ _ _ _ _ _ _ _ _
              refine mix_quiet Keeps.ext 24 rfl (by kernel_rfl) rfl ?_
              intro ι U hne hU
              go_big_quiet_op
              clear hU hne U ι
              show wpAnyM _ _ _ _ _ _ _ _ _
              refine mix_any 23 rfl (by kernel_rfl) rfl ?_
              go_wp2_with (first | (at_make; refine Stop.un ?_) | (at_builtin; refine Stop.un ?_) | (with_reducible refine Stop.conv 22 9 ?_) | (with_reducible refine Stop.conv 9 22 ?_))
              refine (rendo_any _ _ _ g1 _ _ _ hr1x).mono ?_
              rintro e w9 ⟨rfl, rfl⟩
              go_wp2_with (first | (at_make; refine Stop.un ?_) | (at_builtin; refine Stop.un ?_) | (with_reducible refine Stop.conv 22 9 ?_) | (with_reducible refine Stop.conv 9 22 ?_))
              refine MixPost.mk (Ext.refl _) ?_
              refine mix_any 25 rfl (by kernel_rfl) rfl ?_
              go_wp2_with (first | (at_make; refine Stop.un ?_) | (at_builtin; refine Stop.un ?_) | (with_reducible refine Stop.conv 22 9 ?_) | (with_reducible refine Stop.conv 9 22 ?_))
              refine (rrend_any _ _ _ g2 _ _ _ hr2x).mono ?_
              rintro e w9 ⟨rfl, rfl⟩
              go_wp2_with (first | (at_make; refine Stop.un ?_) | (at_builtin; refine Stop.un ?_) | (with_reducible refine Stop.conv 22 9 ?_) | (with_reducible refine Stop.conv 9 22 ?_))
              refine MixPost.mk (Ext.refl _) ?_
              refine mix_quiet Keeps.ext 26 rfl (by kernel_rfl) rfl ?_
              intro ι U hne hU
              go_big_quiet_op
              clear hU hne U ι
              show wpAnyM _ _ _ _ _ _ _ _ _
              refine mix_quiet Keeps.ext 27 rfl (by kernel_rfl) rfl ?_
              intro ι U hne hU
              go_big_quiet_op
              clear hU hne U ι
              show wpAnyM _ _ _ _ _ _ _ _ _
              refine mix_end (by kernel_rfl) ?_
              go_wp2_with (first | (at_make; refine Stop.un ?_) | (at_builtin; refine Stop.un ?_) | (with_reducible refine Stop.conv 22 9 ?_) | (with_reducible refine Stop.conv 9 22 ?_))
              go_roundw
              case rel => exact ⟨i + 1, l', bad', by omega, by go_num, hr1x, hr2x, bwx⟩
              case measure => simp [intOf]; omega
        · have hge : ns ≤ i := by omega
          clear hlt
          go_wp2_with (first | (at_make; refine Stop.un ?_) | (at_builtin; refine Stop.un ?_) | (with_reducible refine Stop.conv 22 9 ?_) | (with_reducible refine Stop.conv 9 22 ?_))
          go_ret
          exact ⟨rfl, bw⟩
end Go.Proofs.Ytpbcjiabglfihaa
