/- BloomEmpty. -/
import Derived.Test.YtfakpmikflaofaaBloomP
set_option linter.unusedVariables false
set_option linter.unusedSimpArgs false
namespace Go.Proofs.Ytfakpmikflaofaa
open Go.RowKit
set_option maxRecDepth 100000 in
set_option maxHeartbeats 4000000 in
theorem bloomEmpty_any (M0 E0 : Nat) (ao : Option Addr) (m cap : Nat) (l : List V) (w : World) (hM : M0 < 65536) (hE : E0 < 256) (hc : Cs w ao (vcells l)) (hm : l.length = m) (hl : m ≤ cap) (hcm : cap ≤ maxLen) (hs : ∀ v ∈ l, v.s.size ≤ maxLen) (hok : ∀ v ∈ l, okV v) :
    Calls Try.prog 7 #[.int .u16 (M0 : Int), .int .u8 (E0 : Int), .slice ao m cap] w (fun e w' => e = .returned (.bool true) ∧ Below w.heap.size w w') := by
  have HF := Lib.hid (fun w hc => few_any ao m cap l w hc hm hl hcm hs)
  have HN := Lib.hid (fun w => new_any (M0 % 8192 + 1) (E0 % 8 + 1) w (by omega) (by omega) (by omega) (by omega))
  have HM := Lib.hid hm
  have HOK := Lib.hid hok
  have hcm' := hcm
  unfold maxLen at hcm'
  clear hm hs hok
  have e1 : ((M0 : Int) % 8192 + 1) = ((M0 % 8192 + 1 : Nat) : Int) := by omega
  have e2 : ((E0 : Int) % 8 + 1) = ((E0 % 8 + 1 : Nat) : Int) := by omega
  have hM1 : 0 < M0 % 8192 + 1 := by omega
  have hM2 : M0 % 8192 + 1 ≤ 8192 := by omega
  have hE1 : 1 ≤ E0 % 8 + 1 := by omega
  have hE2 : E0 % 8 + 1 ≤ 8 := by omega
  rw [← e1, ← e2] at HN
  generalize M0 % 8192 + 1 = M at HN hM1 hM2
  generalize E0 % 8 + 1 = E at HN hE1 hE2
  clear e1 e2
  go_enter Try.func7, Try.ntmps7
  go_wp2_with (first | (at_make; refine Stop.un ?_) | (at_builtin; refine Stop.un ?_) | (with_reducible refine Stop.conv 32 9 ?_) | (with_reducible refine Stop.conv 9 32 ?_))
  refine (shown_any _).mono ?_
  rintro e w1 ⟨rfl, b1⟩
  replace hc := hc.mono b1 (Nat.le_refl _)
  go_wp2_with (first | (at_make; refine Stop.un ?_) | (at_builtin; refine Stop.un ?_) | (with_reducible refine Stop.conv 32 9 ?_) | (with_reducible refine Stop.conv 9 32 ?_))
  refine (HN.out _).mono ?_
  rintro e w2 ⟨g, b, rfl, hg, hb, hF, b2⟩
  have hF2 := hF
  replace hc := hc.mono b2 (Nat.le_refl _)
  replace b1 := b1.next b2
  clear b2 hF HN
  go_wp2_with (first | (at_make; refine Stop.un ?_) | (at_builtin; refine Stop.un ?_) | (with_reducible refine Stop.conv 32 9 ?_) | (with_reducible refine Stop.conv 9 32 ?_))
  refine (HF.out _ hc).mono ?_
  rintro e w3 ⟨f, hf, hf1, rfl, _, b3⟩
  replace hF2 := hF2.mono b3
  replace hc := hc.mono b3 (Nat.le_refl _)
  replace b1 := b1.next b3
  clear b3 HF
  go_wp2_with (first | (at_make; refine Stop.un ?_) | (at_builtin; refine Stop.un ?_) | (with_reducible refine Stop.conv 32 9 ?_) | (with_reducible refine Stop.conv 9 32 ?_))
  go_loopw [12, 35] (fun _ i wr => ∃ j : Nat, j ≤ f ∧ i = .int .i64 (j : Int) ∧ Below w.heap.size w wr ∧ Flt wr g b M E (zeros M) ∧ Cs wr ao (vcells l)) (fun _ i _ => f - (intOf i).toNat)
  case atStart => exact ⟨0, by omega, rfl, b1, hF2, hc⟩
  case round =>
    clear b1 hF2 hc
    obtain ⟨j, hj, rfl, b1, hF2, hc⟩ := hrel
    by_cases hlt : j < f
    · have hjl : j < l.length := by have := HM.out; omega
      obtain ⟨q, o, rfl⟩ := hc.addr (by rw [vcells_length]; omega)
      obtain ⟨x0, x1, x2⟩ := hc.vat hjl
      have hv := HOK.out l[j] (List.getElem_mem _)
      generalize l[j] = v at x0 x1 x2 hv
      have HA := Lib.hid (fun w => add_nil v w)
      have HY := Lib.hid (fun w => may_nil v w)
      have HX := Lib.hid (fun w hF => may_any v M E g b (zeros M) w hF hv hE2 hM1 hM2 (zeros_length M))
      rw [may_zeros v M E hE1] at HX
      obtain ⟨k, n, s⟩ := v
      simp only [V.val] at HA HY HX x0 x1 x2
      clear hjl
      have zr := At.new wr #[.int .u8 k, .int .i64 n, .string s] 30
      have bz := (Below.refl wr.heap.size wr).alloc (Nat.le_refl _) (.cells #[.int .u8 k, .int .i64 n, .string s] 30)
      go_wp2_with (first | (at_make; refine Stop.un ?_) | (at_builtin; refine Stop.un ?_) | (with_reducible refine Stop.conv 32 9 ?_) | (with_reducible refine Stop.conv 9 32 ?_))
      refine (HA.out _).mono ?_
      rintro e w4 ⟨rfl, b4⟩
      have hb4 := bz.next b4
      replace zr := zr.mono b4
      replace hF2 := hF2.mono hb4
      replace hc := hc.mono hb4 (Nat.le_refl _)
      replace b1 := b1.next hb4
      clear x0 x1 x2 hb4 b4 bz
      have z0 := zr.cell 0 rfl
      have z1 := zr.cell 1 rfl
      have z2 := zr.cell 2 rfl
      have zl := zr.lt
      go_wp2_with (first | (at_make; refine Stop.un ?_) | (at_builtin; refine Stop.un ?_) | (with_reducible refine Stop.conv 32 9 ?_) | (with_reducible refine Stop.conv 9 32 ?_))
      refine (HX.out _ hF2).mono ?_
      rintro e w5 ⟨rfl, hb4⟩
      clear z0 z1 z2 zl
      replace zr := zr.mono hb4
      replace hF2 := hF2.mono hb4
      replace hc := hc.mono hb4 (Nat.le_refl _)
      replace b1 := b1.next hb4
      clear hb4
      have z0 := zr.cell 0 rfl
      have z1 := zr.cell 1 rfl
      have z2 := zr.cell 2 rfl
      have zl := zr.lt
      go_wp2_with (first | (at_make; refine Stop.un ?_) | (at_builtin; refine Stop.un ?_) | (with_reducible refine Stop.conv 32 9 ?_) | (with_reducible refine Stop.conv 9 32 ?_))
      refine (HY.out _).mono ?_
      rintro e w6 ⟨rfl, hb4⟩
      clear z0 z1 z2 zl
      replace zr := zr.mono hb4
      replace hF2 := hF2.mono hb4
      replace hc := hc.mono hb4 (Nat.le_refl _)
      replace b1 := b1.next hb4
      clear hb4
      go_wp2_with (first | (at_make; refine Stop.un ?_) | (at_builtin; refine Stop.un ?_) | (with_reducible refine Stop.conv 32 9 ?_) | (with_reducible refine Stop.conv 9 32 ?_))
      go_roundw
      case rel => exact ⟨j + 1, by omega, by go_num, b1, hF2, hc⟩
      case measure => simp [intOf]; omega
    · go_wp2_with (first | (at_make; refine Stop.un ?_) | (at_builtin; refine Stop.un ?_) | (with_reducible refine Stop.conv 32 9 ?_) | (with_reducible refine Stop.conv 9 32 ?_))
      refine (bits_nil _).mono ?_
      rintro e w4 ⟨rfl, rfl⟩
      go_wp2_with (first | (at_make; refine Stop.un ?_) | (at_builtin; refine Stop.un ?_) | (with_reducible refine Stop.conv 32 9 ?_) | (with_reducible refine Stop.conv 9 32 ?_))
      go_ret
      exact ⟨rfl, b1⟩
end Go.Proofs.Ytfakpmikflaofaa
