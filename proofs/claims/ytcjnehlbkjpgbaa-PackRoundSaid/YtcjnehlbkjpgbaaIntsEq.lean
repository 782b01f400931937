/- warpref05.Ints of two slices that hold the same. -/
import Derived.Test.YtcjnehlbkjpgbaaInts
import Derived.Test.YtcjnehlbkjpgbaaMix
set_option linter.unusedVariables false
set_option linter.unusedSimpArgs false
namespace Go.Proofs.Ytcjnehlbkjpgbaa
open Go.RowKit
theorem ics_getD {w : World} {b o : Nat} {zs : List Int} (hc : Cs w (some ⟨b, o, none⟩) (icells zs)) {j : Nat} (hj : j < zs.length) : w.cell? ⟨b, o + j, none⟩ = some (.int .i64 (zs.getD j 0)) :=
  hc.at (by simp [icells, hj])
set_option maxHeartbeats 1000000 in
theorem intsEq_any (ao bo : Option Addr) (m cap cap' : Nat) (zs : List Int) (w : World) (hc : Cs w ao (icells zs)) (hd : Cs w bo (icells zs)) (hm : zs.length = m) (hl : m ≤ 9223372036854775807) (hlc : m ≤ cap) (hlc' : m ≤ cap') :
    Calls Try.prog 24 #[.slice ao m cap, .slice bo m cap'] w (fun e w' => e = .returned (.bool true) ∧ Below w.heap.size w w') := by
  have HM := Lib.hid hm; clear hm
  have hmm : (!(m : Int) == (m : Int)) = false := by simp
  go_enter Try.func24, Try.ntmps24
  go_wp2_with (first | (at_make; refine Stop.un ?_) | (at_builtin; refine Stop.un ?_))
  go_loopw [5] (fun c wr => ∃ (j : Nat), j ≤ m ∧ c = .int .i64 (j : Int) ∧ Below w.heap.size w wr) (fun c _ => m - (intOf c).toNat)
  case atStart => exact ⟨0, by omega, rfl, Below.refl _ _⟩
  case round =>
    obtain ⟨j, hj, rfl, hb⟩ := hrel
    by_cases hlt : j < m
    · obtain ⟨b, o, rfl⟩ := hc.addr (by rw [icells_length]; have := HM.out; omega)
      obtain ⟨b', o', rfl⟩ := hd.addr (by rw [icells_length]; have := HM.out; omega)
      have h1 := ics_getD (hc.mono hb (Nat.le_refl _)) (j := j) (by have := HM.out; omega)
      have h2 := ics_getD (hd.mono hb (Nat.le_refl _)) (j := j) (by have := HM.out; omega)
      generalize zs.getD j 0 = x at h1 h2
      have hx : (x != x) = false := by simp
      clear hc hd
      go_wp2_with (first | (at_make; refine Stop.un ?_) | (at_builtin; refine Stop.un ?_))
      refine mix_startE 9 rfl (by kernel_rfl) ?_
      intro x1 hx1
      refine mix_quiet Keeps.ext 0 rfl (by kernel_rfl) rfl ?_
      intro ι U hne hU
      go_big_quiet_op
      clear hU hne U ι
      show wpAnyM _ _ _ _ _ _ _ _ _
      refine mix_quiet Keeps.ext 1 rfl (by kernel_rfl) rfl ?_
      intro ι U hne hU
      go_big_quiet_op
      clear hU hne U ι
      show wpAnyM _ _ _ _ _ _ _ _ _
      refine mix_quiet Keeps.ext 2 rfl (by kernel_rfl) rfl ?_
      intro ι U hne hU
      go_big_quiet_op
      clear hU hne U ι
      show wpAnyM _ _ _ _ _ _ _ _ _
      refine mix_quiet Keeps.ext 3 rfl (by kernel_rfl) rfl ?_
      intro ι U hne hU
      have hcv := fun k => ((hx1.trans (hU k)).cell h1)
      go_big_quiet_op
      clear hU hne hcv U ι
      show wpAnyM _ _ _ _ _ _ _ _ _
      refine mix_quiet Keeps.ext 4 rfl (by kernel_rfl) rfl ?_
      intro ι U hne hU
      go_big_quiet_op
      clear hU hne U ι
      show wpAnyM _ _ _ _ _ _ _ _ _
      refine mix_quiet Keeps.ext 5 rfl (by kernel_rfl) rfl ?_
      intro ι U hne hU
      go_big_quiet_op
      clear hU hne U ι
      show wpAnyM _ _ _ _ _ _ _ _ _
      refine mix_quiet Keeps.ext 6 rfl (by kernel_rfl) rfl ?_
      intro ι U hne hU
      go_big_quiet_op
      clear hU hne U ι
      show wpAnyM _ _ _ _ _ _ _ _ _
      refine mix_quiet Keeps.ext 7 rfl (by kernel_rfl) rfl ?_
      intro ι U hne hU
      have hcv := fun k => ((hx1.trans (hU k)).cell h2)
      go_big_quiet_op
      clear hU hne hcv U ι
      show wpAnyM _ _ _ _ _ _ _ _ _
      refine mix_quiet Keeps.ext 8 rfl (by kernel_rfl) rfl ?_
      intro ι U hne hU
      go_big_quiet_op
      clear hU hne U ι
      show wpAnyM _ _ _ _ _ _ _ _ _
      refine mix_end (by kernel_rfl) ?_
      have hb2 := hb.next hx1
      clear hb hx1
      go_wp2_with (first | (at_make; refine Stop.un ?_) | (at_builtin; refine Stop.un ?_))
      go_roundw
      case rel => exact ⟨j + 1, by omega, by go_num, hb2⟩
      case measure => simp [intOf] <;> omega
    · go_wp2_with (first | (at_make; refine Stop.un ?_) | (at_builtin; refine Stop.un ?_))
      go_ret
      exact ⟨rfl, hb⟩
end Go.Proofs.Ytcjnehlbkjpgbaa
