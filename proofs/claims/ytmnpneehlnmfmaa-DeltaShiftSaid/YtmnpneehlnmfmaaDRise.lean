/- What slices.IsSorted, Rises and the reference's Rises return, of numbers. -/
import Derived.Test.YtmnpneehlnmfmaaDPlain
import Derived.Test.YtmnpneehlnmfmaaMix
set_option linter.unusedVariables false
namespace Go.Proofs.Ytmnpneehlnmfmaa
open Go.RowKit
set_option maxHeartbeats 400000 in
theorem nan_any (a : Int) (w : World) : Calls Try.prog 41 #[.int .i64 a] w (fun e w' => e = .returned (.bool false) ∧ w = w') := by
  have hn : (!a == a) = false := by simp
  go_enter Try.func41, Try.ntmps41
  go_wp2
  go_ret
  exact ⟨rfl, rfl⟩
set_option maxHeartbeats 400000 in
theorem less_any (a b : Int) (w : World) : Calls Try.prog 35 #[.int .i64 a, .int .i64 b] w (fun e w' => e = .returned (.bool (decide (a < b))) ∧ w = w') := by
  go_enter Try.func35, Try.ntmps35
  go_wp2_with (first | (at_make; refine Stop.un ?_) | (at_builtin; refine Stop.un ?_))
  refine (nan_any a _).mono ?_
  rintro e w1 ⟨rfl, rfl⟩
  go_wp2_with (first | (at_make; refine Stop.un ?_) | (at_builtin; refine Stop.un ?_))
  go_ret
  exact ⟨rfl, rfl⟩

theorem cs_getD {w : World} {b o : Nat} {zs : List Int} (hc : Cs w (some ⟨b, o, none⟩) (zs.map (Value.int .i64))) {j : Nat} (hj : j < zs.length) : w.cell? ⟨b, o + j, none⟩ = some (.int .i64 (zs.getD j 0)) :=
  hc.at (by simp [hj])

set_option maxHeartbeats 1000000 in
theorem sorted_any (ao : Option Addr) (m cap : Nat) (zs : List Int) (w : World) (hc : Cs w ao (zs.map (Value.int .i64))) (hm : zs.length = m) (hl : m ≤ cap) (hcm : cap ≤ maxLen) :
    Calls Try.prog 24 #[.slice ao m cap] w (fun e w' => e = .returned (.bool (risesB zs)) ∧ Below w.heap.size w w') := by
  unfold maxLen at hcm
  have HM := Lib.hid hm; clear hm
  go_enter Try.func24, Try.ntmps24
  go_wp2_with (first | (at_make; refine Stop.un ?_) | (at_builtin; refine Stop.un ?_))
  go_loopw [3] (fun c wr => ∃ (r : Nat), r ≤ m ∧ c = .int .i64 ((r : Int) - 1) ∧ Below w.heap.size w wr ∧ Hid (∀ q : Nat, r ≤ q + 1 → q + 1 < m → zs.getD q 0 ≤ zs.getD (q + 1) 0)) (fun c _ => (intOf c).toNat)
  case atStart => exact ⟨m, by omega, rfl, Below.refl _ _, Lib.hid (fun q h1 h2 => by omega)⟩
  case round =>
    obtain ⟨r, hr, rfl, hb, HQ⟩ := hrel
    by_cases hlt : r ≤ 1
    · have hT := rises_true (zs := zs) (fun i hi => HQ.out i (by omega) (by have := HM.out; omega))
      have HT := Lib.hid hT
      clear hT
      go_wp2_with (first | (at_make; refine Stop.un ?_) | (at_builtin; refine Stop.un ?_))
      go_ret
      exact ⟨by rw [HT.out]; rfl, hb⟩
    · obtain ⟨k, rfl⟩ : ∃ k, r = k + 2 := ⟨r - 2, by omega⟩
      rw [show ((k + 2 : Nat) : Int) - 1 = (k : Int) + 1 by omega]
      obtain ⟨b, o, rfl⟩ := hc.addr (by rw [List.length_map]; have := HM.out; omega)
      have h1 := cs_getD (hc.mono hb (Nat.le_refl _)) (j := k + 1) (by have := HM.out; omega)
      have h0 := cs_getD (hc.mono hb (Nat.le_refl _)) (j := k) (by have := HM.out; omega)
      generalize hx : zs.getD (k + 1) 0 = x at h1
      generalize hy : zs.getD k 0 = y at h0
      have HX := Lib.hid hx
      have HY := Lib.hid hy
      clear hx hy hlt hc
      go_wp2_with (first | (at_make; refine Stop.un ?_) | (at_builtin; refine Stop.un ?_))
      refine mix_startE 10 rfl (by kernel_rfl) ?_
      intro x1 hx1
      refine mix_quiet Keeps.ext 0 rfl (by kernel_rfl) rfl ?_
      intro ι U hne hU
      go_big_quiet_op
      clear hU hne U ι
      show wpAnyM _ _ _ _ _ _ _ _ _
      refine mix_quiet Keeps.ext 1 rfl (by kernel_rfl) rfl ?_
      intro ι U hne hU
      go_big_quiet_op
      clear hU hne U ι
      show wpAnyM _ _ _ _ _ _ _ _ _
      refine mix_quiet Keeps.ext 2 rfl (by kernel_rfl) rfl ?_
      intro ι U hne hU
      go_big_quiet_op
      clear hU hne U ι
      show wpAnyM _ _ _ _ _ _ _ _ _
      refine mix_quiet Keeps.ext 3 rfl (by kernel_rfl) rfl ?_
      intro ι U hne hU
      have hcv := fun k => ((hx1.trans (hU k)).cell h1)
      go_big_quiet_op
      clear hU hne hcv U ι
      show wpAnyM _ _ _ _ _ _ _ _ _
      refine mix_quiet Keeps.ext 4 rfl (by kernel_rfl) rfl ?_
      intro ι U hne hU
      go_big_quiet_op
      clear hU hne U ι
      show wpAnyM _ _ _ _ _ _ _ _ _
      refine mix_quiet Keeps.ext 5 rfl (by kernel_rfl) rfl ?_
      intro ι U hne hU
      go_big_quiet_op
      clear hU hne U ι
      show wpAnyM _ _ _ _ _ _ _ _ _
      refine mix_quiet Keeps.ext 6 rfl (by kernel_rfl) rfl ?_
      intro ι U hne hU
      go_big_quiet_op
      clear hU hne U ι
      show wpAnyM _ _ _ _ _ _ _ _ _
      refine mix_quiet Keeps.ext 7 rfl (by kernel_rfl) rfl ?_
      intro ι U hne hU
      go_big_quiet_op
      clear hU hne U ι
      show wpAnyM _ _ _ _ _ _ _ _ _
      refine mix_quiet Keeps.ext 8 rfl (by kernel_rfl) rfl ?_
      intro ι U hne hU
      have hcv := fun k => ((hx1.trans (hU k)).cell h0)
      go_big_quiet_op
      clear hU hne hcv U ι
      show wpAnyM _ _ _ _ _ _ _ _ _
      refine mix_any 9 rfl (by kernel_rfl) rfl ?_
      go_wp2_with (first | (at_make; refine Stop.un ?_) | (at_builtin; refine Stop.un ?_) | (with_reducible refine Stop.conv 28 9 ?_) | (with_reducible refine Stop.conv 9 28 ?_))
      refine (less_any x y _).mono ?_
      rintro e w1 ⟨rfl, rfl⟩
      go_wp2_with (first | (at_make; refine Stop.un ?_) | (at_builtin; refine Stop.un ?_) | (with_reducible refine Stop.conv 28 9 ?_) | (with_reducible refine Stop.conv 9 28 ?_))
      refine MixPost.mk (Ext.refl _) ?_
      refine mix_end (by kernel_rfl) ?_
      have hb2 := hb.next hx1
      clear hb hx1
      by_cases hxy : x < y
      · go_wp2_with (first | (at_make; refine Stop.un ?_) | (at_builtin; refine Stop.un ?_))
        go_ret
        exact ⟨by rw [rises_false k (by have := HM.out; omega) (by rw [HX.out, HY.out]; exact hxy)]; rfl, hb2⟩
      · go_wp2_with (first | (at_make; refine Stop.un ?_) | (at_builtin; refine Stop.un ?_))
        go_roundw
        case rel => exact ⟨k + 1, by omega, by go_num, hb2, Lib.hid (fun q h1 h2 => by
          by_cases hq : q = k
          · subst hq; rw [HX.out, HY.out]; omega
          · exact HQ.out q (by omega) h2)⟩
        case measure => simp [intOf] <;> omega

set_option maxHeartbeats 400000 in
theorem rises_any (ao : Option Addr) (m cap : Nat) (zs : List Int) (w : World) (hc : Cs w ao (zs.map (Value.int .i64))) (hm : zs.length = m) (hl : m ≤ cap) (hcm : cap ≤ maxLen) :
    Calls Try.prog 15 #[.slice ao m cap] w (fun e w' => e = .returned (.bool (risesB zs)) ∧ Below w.heap.size w w') := by
  go_enter Try.func15, Try.ntmps15
  go_wp2_with (first | (at_make; refine Stop.un ?_) | (at_builtin; refine Stop.un ?_))
  refine (sorted_any ao m cap zs _ hc hm hl hcm).mono ?_
  rintro e w1 ⟨rfl, hb⟩
  go_wp2_with (first | (at_make; refine Stop.un ?_) | (at_builtin; refine Stop.un ?_))
  go_ret
  exact ⟨rfl, hb⟩

set_option maxHeartbeats 1000000 in
theorem rrises_any (ao : Option Addr) (m cap : Nat) (zs : List Int) (w : World) (hc : Cs w ao (zs.map (Value.int .i64))) (hm : zs.length = m) (hl : m ≤ cap) (hcm : cap ≤ maxLen) :
    Calls Try.prog 16 #[.slice ao m cap] w (fun e w' => e = .returned (.bool (risesB zs)) ∧ Below w.heap.size w w') := by
  unfold maxLen at hcm
  have HM := Lib.hid hm; clear hm
  go_enter Try.func16, Try.ntmps16
  go_wp2_with (first | (at_make; refine Stop.un ?_) | (at_builtin; refine Stop.un ?_))
  go_loopw [3] (fun c wr => ∃ (r : Nat), 1 ≤ r ∧ c = .int .i64 (r : Int) ∧ Below w.heap.size w wr ∧ Hid (∀ q : Nat, q + 1 < r → q + 1 < m → zs.getD q 0 ≤ zs.getD (q + 1) 0)) (fun c _ => m - (intOf c).toNat)
  case atStart => exact ⟨1, by omega, rfl, Below.refl _ _, Lib.hid (fun q h1 h2 => by omega)⟩
  case round =>
    obtain ⟨r, hr, rfl, hb, HQ⟩ := hrel
    by_cases hlt : r < m
    · obtain ⟨k, rfl⟩ : ∃ k, r = k + 1 := ⟨r - 1, by omega⟩
      rw [show ((k + 1 : Nat) : Int) = (k : Int) + 1 by omega]
      obtain ⟨b, o, rfl⟩ := hc.addr (by rw [List.length_map]; have := HM.out; omega)
      have h1 := cs_getD (hc.mono hb (Nat.le_refl _)) (j := k + 1) (by have := HM.out; omega)
      have h0 := cs_getD (hc.mono hb (Nat.le_refl _)) (j := k) (by have := HM.out; omega)
      generalize hx : zs.getD (k + 1) 0 = x at h1
      generalize hy : zs.getD k 0 = y at h0
      have HX := Lib.hid hx
      have HY := Lib.hid hy
      clear hx hy hc
      go_wp2_with (first | (at_make; refine Stop.un ?_) | (at_builtin; refine Stop.un ?_))
      refine mix_startE 10 rfl (by kernel_rfl) ?_
      intro x1 hx1
      refine mix_quiet Keeps.ext 0 rfl (by kernel_rfl) rfl ?_
      intro ι U hne hU
      go_big_quiet_op
      clear hU hne U ι
      show wpAnyM _ _ _ _ _ _ _ _ _
      refine mix_quiet Keeps.ext 1 rfl (by kernel_rfl) rfl ?_
      intro ι U hne hU
      go_big_quiet_op
      clear hU hne U ι
      show wpAnyM _ _ _ _ _ _ _ _ _
      refine mix_quiet Keeps.ext 2 rfl (by kernel_rfl) rfl ?_
      intro ι U hne hU
      go_big_quiet_op
      clear hU hne U ι
      show wpAnyM _ _ _ _ _ _ _ _ _
      refine mix_quiet Keeps.ext 3 rfl (by kernel_rfl) rfl ?_
      intro ι U hne hU
      have hcv := fun k => ((hx1.trans (hU k)).cell h1)
      go_big_quiet_op
      clear hU hne hcv U ι
      show wpAnyM _ _ _ _ _ _ _ _ _
      refine mix_quiet Keeps.ext 4 rfl (by kernel_rfl) rfl ?_
      intro ι U hne hU
      go_big_quiet_op
      clear hU hne U ι
      show wpAnyM _ _ _ _ _ _ _ _ _
      refine mix_quiet Keeps.ext 5 rfl (by kernel_rfl) rfl ?_
      intro ι U hne hU
      go_big_quiet_op
      clear hU hne U ι
      show wpAnyM _ _ _ _ _ _ _ _ _
      refine mix_quiet Keeps.ext 6 rfl (by kernel_rfl) rfl ?_
      intro ι U hne hU
      go_big_quiet_op
      clear hU hne U ι
      show wpAnyM _ _ _ _ _ _ _ _ _
      refine mix_quiet Keeps.ext 7 rfl (by kernel_rfl) rfl ?_
      intro ι U hne hU
      go_big_quiet_op
      clear hU hne U ι
      show wpAnyM _ _ _ _ _ _ _ _ _
      refine mix_quiet Keeps.ext 8 rfl (by kernel_rfl) rfl ?_
      intro ι U hne hU
      have hcv := fun k => ((hx1.trans (hU k)).cell h0)
      go_big_quiet_op
      clear hU hne hcv U ι
      show wpAnyM _ _ _ _ _ _ _ _ _
      refine mix_quiet Keeps.ext 9 rfl (by kernel_rfl) rfl ?_
      intro ι U hne hU
      go_big_quiet_op
      clear hU hne U ι
      show wpAnyM _ _ _ _ _ _ _ _ _
      refine mix_end (by kernel_rfl) ?_
      have hb2 := hb.next hx1
      clear hb hx1
      by_cases hxy : x < y
      · go_wp2_with (first | (at_make; refine Stop.un ?_) | (at_builtin; refine Stop.un ?_))
        go_ret
        exact ⟨by rw [rises_false k (by have := HM.out; omega) (by rw [HX.out, HY.out]; exact hxy)]; rfl, hb2⟩
      · go_wp2_with (first | (at_make; refine Stop.un ?_) | (at_builtin; refine Stop.un ?_))
        go_roundw
        case rel => exact ⟨k + 2, by omega, by go_num, hb2, Lib.hid (fun q h1 h2 => by
          by_cases hq : q = k
          · subst hq; rw [HX.out, HY.out]; omega
          · exact HQ.out q (by omega) h2)⟩
        case measure => simp [intOf] <;> omega
    · have hT := rises_true (zs := zs) (fun i hi => HQ.out i (by have := HM.out; omega) (by have := HM.out; omega))
      have HT := Lib.hid hT
      clear hT
      go_wp2_with (first | (at_make; refine Stop.un ?_) | (at_builtin; refine Stop.un ?_))
      go_ret
      exact ⟨by rw [HT.out]; rfl, hb⟩
end Go.Proofs.Ytmnpneehlnmfmaa
