/- How many bits and bytes. -/
import Derived.Test.YtcjnehlbkjpgbaaPackP
set_option linter.unusedVariables false
set_option linter.unusedSimpArgs false
namespace Go.Proofs.Ytcjnehlbkjpgbaa
open Go.RowKit
set_option maxHeartbeats 1000000 in
theorem bytes_any (many width : Int) (w : World) : Calls Try.prog 12 #[.int .i64 many, .int .i64 width] w (fun e w' => e = .returned (.tuple #[.int .i64 (bytN many width), .int .i64 (bytE many width)]) ∧ w = w') := by
  have hx : many < 0 ∨ (0 ≤ many ∧ width < 0) ∨ (0 ≤ many ∧ 0 ≤ width ∧ 64 < width) ∨ (0 ≤ many ∧ 0 ≤ width ∧ width ≤ 64 ∧ 4096 < many) ∨ (0 ≤ many ∧ 0 ≤ width ∧ width ≤ 64 ∧ many ≤ 4096) := by omega
  rcases hx with h | ⟨h, h1⟩ | ⟨h, h1, h2⟩ | ⟨h, h1, h2, h3⟩ | ⟨h, h1, h2, h3⟩
  · have e1 : bytN many width = 0 := if_pos (by omega)
    have e2 : bytE many width = 1 := if_pos (by omega)
    rw [e1, e2]
    clear e1 e2
    go_enter Try.func12, Try.ntmps12
    go_wp2_with (first | (at_make; refine Stop.un ?_) | (at_builtin; refine Stop.un ?_) | (with_reducible refine Stop.conv 24 9 ?_) | (with_reducible refine Stop.conv 9 24 ?_))
    go_ret2
    exact ⟨rfl, rfl⟩
  · have e1 : bytN many width = 0 := if_pos (by omega)
    have e2 : bytE many width = 1 := if_pos (by omega)
    rw [e1, e2]
    clear e1 e2
    go_enter Try.func12, Try.ntmps12
    go_wp2_with (first | (at_make; refine Stop.un ?_) | (at_builtin; refine Stop.un ?_) | (with_reducible refine Stop.conv 24 9 ?_) | (with_reducible refine Stop.conv 9 24 ?_))
    go_ret2
    exact ⟨rfl, rfl⟩
  · have e1 : bytN many width = 0 := if_pos (by omega)
    have e2 : bytE many width = 1 := if_pos (by omega)
    rw [e1, e2]
    clear e1 e2
    go_enter Try.func12, Try.ntmps12
    go_wp2_with (first | (at_make; refine Stop.un ?_) | (at_builtin; refine Stop.un ?_) | (with_reducible refine Stop.conv 24 9 ?_) | (with_reducible refine Stop.conv 9 24 ?_))
    go_ret2
    exact ⟨rfl, rfl⟩
  · have e1 : bytN many width = 0 := by unfold bytN; rw [if_neg (by omega), if_pos h3]
    have e2 : bytE many width = 3 := by unfold bytE; rw [if_neg (by omega), if_pos h3]
    rw [e1, e2]
    clear e1 e2
    go_enter Try.func12, Try.ntmps12
    go_wp2_with (first | (at_make; refine Stop.un ?_) | (at_builtin; refine Stop.un ?_) | (with_reducible refine Stop.conv 24 9 ?_) | (with_reducible refine Stop.conv 9 24 ?_))
    go_ret2
    exact ⟨rfl, rfl⟩
  · have e1 : bytN many width = (many * width + 7) / 8 := by unfold bytN; rw [if_neg (by omega), if_neg (by omega)]
    have e2 : bytE many width = 0 := by unfold bytE; rw [if_neg (by omega), if_neg (by omega)]
    have hm0 : 0 ≤ many * width := Int.mul_nonneg h h1
    have hm1 : many * width ≤ 4096 * 64 := Int.mul_le_mul h3 h2 h1 (by decide)
    rw [e1, e2]
    clear e1 e2
    go_enter Try.func12, Try.ntmps12
    go_wp2_with (first | (at_make; refine Stop.un ?_) | (at_builtin; refine Stop.un ?_) | (with_reducible refine Stop.conv 24 9 ?_) | (with_reducible refine Stop.conv 9 24 ?_))
    go_ret2
    exact ⟨rfl, rfl⟩
set_option maxHeartbeats 1000000 in
theorem rbytes_any (many width : Int) (w : World) : Calls Try.prog 13 #[.int .i64 many, .int .i64 width] w (fun e w' => e = .returned (.tuple #[.int .i64 (bytN many width), .int .i64 (bytE many width)]) ∧ w = w') := by
  have hx : many < 0 ∨ (0 ≤ many ∧ width < 0) ∨ (0 ≤ many ∧ 0 ≤ width ∧ 64 < width) ∨ (0 ≤ many ∧ 0 ≤ width ∧ width ≤ 64 ∧ 4096 < many) ∨ (0 ≤ many ∧ 0 ≤ width ∧ width ≤ 64 ∧ many ≤ 4096) := by omega
  rcases hx with h | ⟨h, h1⟩ | ⟨h, h1, h2⟩ | ⟨h, h1, h2, h3⟩ | ⟨h, h1, h2, h3⟩
  · have e1 : bytN many width = 0 := if_pos (by omega)
    have e2 : bytE many width = 1 := if_pos (by omega)
    rw [e1, e2]
    clear e1 e2
    go_enter Try.func13, Try.ntmps13
    go_wp2_with (first | (at_make; refine Stop.un ?_) | (at_builtin; refine Stop.un ?_) | (with_reducible refine Stop.conv 24 9 ?_) | (with_reducible refine Stop.conv 9 24 ?_))
    go_ret2
    exact ⟨rfl, rfl⟩
  · have e1 : bytN many width = 0 := if_pos (by omega)
    have e2 : bytE many width = 1 := if_pos (by omega)
    rw [e1, e2]
    clear e1 e2
    go_enter Try.func13, Try.ntmps13
    go_wp2_with (first | (at_make; refine Stop.un ?_) | (at_builtin; refine Stop.un ?_) | (with_reducible refine Stop.conv 24 9 ?_) | (with_reducible refine Stop.conv 9 24 ?_))
    go_ret2
    exact ⟨rfl, rfl⟩
  · have e1 : bytN many width = 0 := if_pos (by omega)
    have e2 : bytE many width = 1 := if_pos (by omega)
    rw [e1, e2]
    clear e1 e2
    go_enter Try.func13, Try.ntmps13
    go_wp2_with (first | (at_make; refine Stop.un ?_) | (at_builtin; refine Stop.un ?_) | (with_reducible refine Stop.conv 24 9 ?_) | (with_reducible refine Stop.conv 9 24 ?_))
    go_ret2
    exact ⟨rfl, rfl⟩
  · have e1 : bytN many width = 0 := by unfold bytN; rw [if_neg (by omega), if_pos h3]
    have e2 : bytE many width = 3 := by unfold bytE; rw [if_neg (by omega), if_pos h3]
    rw [e1, e2]
    clear e1 e2
    go_enter Try.func13, Try.ntmps13
    go_wp2_with (first | (at_make; refine Stop.un ?_) | (at_builtin; refine Stop.un ?_) | (with_reducible refine Stop.conv 24 9 ?_) | (with_reducible refine Stop.conv 9 24 ?_))
    go_ret2
    exact ⟨rfl, rfl⟩
  · have e1 : bytN many width = (many * width + 7) / 8 := by unfold bytN; rw [if_neg (by omega), if_neg (by omega)]
    have e2 : bytE many width = 0 := by unfold bytE; rw [if_neg (by omega), if_neg (by omega)]
    have hm0 : 0 ≤ many * width := Int.mul_nonneg h h1
    have hm1 : many * width ≤ 4096 * 64 := Int.mul_le_mul h3 h2 h1 (by decide)
    rw [e1, e2]
    clear e1 e2
    go_enter Try.func13, Try.ntmps13
    go_wp2_with (first | (at_make; refine Stop.un ?_) | (at_builtin; refine Stop.un ?_) | (with_reducible refine Stop.conv 24 9 ?_) | (with_reducible refine Stop.conv 9 24 ?_))
    go_ret2
    exact ⟨rfl, rfl⟩
theorem or_u64 (a b : Nat) (ha : a < 2 ^ 64) (hb : b < 2 ^ 64) : bits .or .u64 (a : Int) (b : Int) = ((a ||| b : Nat) : Int) := bits_or_u64_nat a b ha hb
set_option maxHeartbeats 1000000 in
theorem width_any (ao : Option Addr) (m cap : Nat) (l : List Nat) (w : World) (hc : Cs w ao (ucells l)) (hm : l.length = m) (hlc : m ≤ cap) (hl : m ≤ maxLen) (hu : ∀ x ∈ l, x < 2 ^ 64) :
    Calls Try.prog 15 #[.slice ao m cap] w (fun e w' => e = .returned (.int .i64 (widN l : Int)) ∧ w = w') := by
  unfold maxLen at hl
  have HM := Lib.hid hm
  have HU := Lib.hid hu
  clear hm hu
  go_enter Try.func15, Try.ntmps15
  go_wp2_with (first | (at_make; refine Stop.un ?_) | (at_builtin; refine Stop.un ?_) | (with_reducible refine Stop.conv 24 9 ?_) | (with_reducible refine Stop.conv 9 24 ?_))
  go_loopw [3, 8] (fun a i wr => ∃ j : Nat, j ≤ m ∧ a = .int .u64 ((orL (l.take j) : Nat) : Int) ∧ i = .int .i64 (j : Int) ∧ wr = w) (fun _ i _ => m - (intOf i).toNat)
  case atStart => exact ⟨0, Nat.zero_le _, rfl, rfl, rfl⟩
  case round =>
    obtain ⟨j, hj, rfl, rfl, rfl⟩ := hrel
    have ho : orL (l.take j) < 2 ^ 64 := (orL_lt _ 64).2 (fun x hx => HU.out x (List.mem_of_mem_take hx))
    by_cases hlt : j < m
    · have hjl : j < l.length := by have := HM.out; omega
      have hst : orL (l.take (j + 1)) = orL (l.take j) ||| l[j] := by rw [List.take_succ_eq_append_getElem hjl, orL_snoc]
      have hx := HU.out l[j] (List.getElem_mem _)
      obtain ⟨b, o, rfl⟩ := hc.addr (by rw [ucells_length]; omega)
      have x0 : wr.cell? ⟨b, o + j, none⟩ = some (.int .u64 ((l[j] : Nat) : Int)) := hc.at (by simp [ucells, hjl])
      have HO := Lib.hid (or_u64 (orL (l.take j)) l[j] ho hx)
      rw [← hst] at HO
      have HST := Lib.hid hst
      generalize l[j] = x at x0 hx HO hst HST
      generalize orL (l.take j) = y at ho HO ⊢
      clear hst HST hjl
      go_wp2_with (first | (at_make; refine Stop.un ?_) | (at_builtin; refine Stop.un ?_) | (with_reducible refine Stop.conv 24 9 ?_) | (with_reducible refine Stop.conv 9 24 ?_))
      go_roundw
      case rel => exact ⟨j + 1, by omega, by rw [HO.out], by go_num, True.intro⟩
      case measure => simp [intOf]; omega
    · have hjm : j = m := by omega
      have HR := Lib.hid (orL_len l HU.out)
      rw [List.take_of_length_le (by have := HM.out; omega)] at ho ⊢
      generalize orL l = y at ho HR ⊢
      go_wp2_with (first | (at_make; refine Stop.un ?_) | (at_builtin; refine Stop.un ?_) | (with_reducible refine Stop.conv 24 9 ?_) | (with_reducible refine Stop.conv 9 24 ?_))
      refine (Try.bits_Len64 (y : Int) wr (by omega) (by omega)).mono ?_
      rintro e w1 ⟨rfl, rfl⟩
      rw [Int.toNat_natCast, HR.out]
      go_wp2_with (first | (at_make; refine Stop.un ?_) | (at_builtin; refine Stop.un ?_) | (with_reducible refine Stop.conv 24 9 ?_) | (with_reducible refine Stop.conv 9 24 ?_))
      go_ret
      exact ⟨rfl, rfl⟩
set_option maxHeartbeats 1000000 in
theorem rbitsN_any (x : Nat) (w : World) (hx : x < 2 ^ 64) : Calls Try.prog 25 #[.int .u64 (x : Int)] w (fun e w' => e = .returned (.int .i64 (Lib.bitLen x : Int)) ∧ w = w') := by
  have HX := Lib.hid hx
  have hx2 : x < 18446744073709551616 := hx
  clear hx
  go_enter Try.func25, Try.ntmps25
  go_wp2_with (first | (at_make; refine Stop.un ?_) | (at_builtin; refine Stop.un ?_) | (with_reducible refine Stop.conv 24 9 ?_) | (with_reducible refine Stop.conv 9 24 ?_))
  go_loopw [0, 3] (fun a i wr => ∃ (y k : Nat), y ≤ x ∧ a = .int .u64 (y : Int) ∧ i = .int .i64 (k : Int) ∧ wr = w ∧ Hid (k + Lib.bitLen y = Lib.bitLen x)) (fun a _ _ => (intOf a).toNat)
  case atStart => exact ⟨x, 0, Nat.le_refl _, rfl, rfl, rfl, Lib.hid (Nat.zero_add _)⟩
  case round =>
    obtain ⟨y, k, hy, rfl, rfl, rfl, HK⟩ := hrel
    have h6 := bitLen_le64 x
    have hk := HK.out
    have hk2 : k ≤ 64 := by omega
    by_cases h0 : 0 < y
    · have hh := Lib.bitLen_half y (by omega) (by omega)
      have HK2 : Hid (k + 1 + Lib.bitLen (y / 2) = Lib.bitLen x) := Lib.hid (by omega)
      clear hh hk HK h6
      go_wp2_with (first | (at_make; refine Stop.un ?_) | (at_builtin; refine Stop.un ?_) | (with_reducible refine Stop.conv 24 9 ?_) | (with_reducible refine Stop.conv 9 24 ?_))
      go_roundw
      case rel => exact ⟨y / 2, k + 1, by omega, by go_num, by go_num, True.intro, HK2⟩
      case measure => simp [intOf]; omega
    · obtain rfl : y = 0 := by omega
      have hk3 : k = Lib.bitLen x := by rw [← hk]; rfl
      have HK3 := Lib.hid hk3
      clear hk3 hk h6 HK
      go_wp2_with (first | (at_make; refine Stop.un ?_) | (at_builtin; refine Stop.un ?_) | (with_reducible refine Stop.conv 24 9 ?_) | (with_reducible refine Stop.conv 9 24 ?_))
      go_ret
      rw [HK3.out]
      exact ⟨rfl, rfl⟩
set_option maxHeartbeats 1000000 in
theorem rwidth_any (ao : Option Addr) (m cap : Nat) (l : List Nat) (w : World) (hc : Cs w ao (ucells l)) (hm : l.length = m) (hlc : m ≤ cap) (hl : m ≤ maxLen) (hu : ∀ x ∈ l, x < 2 ^ 64) :
    Calls Try.prog 16 #[.slice ao m cap] w (fun e w' => e = .returned (.int .i64 (widN l : Int)) ∧ w = w') := by
  unfold maxLen at hl
  have HM := Lib.hid hm
  have HU := Lib.hid hu
  clear hm hu
  go_enter Try.func16, Try.ntmps16
  go_wp2_with (first | (at_make; refine Stop.un ?_) | (at_builtin; refine Stop.un ?_) | (with_reducible refine Stop.conv 24 9 ?_) | (with_reducible refine Stop.conv 9 24 ?_))
  go_loopw [3, 4] (fun a i wr => ∃ j : Nat, j ≤ m ∧ a = .int .i64 ((widN (l.take j) : Nat) : Int) ∧ i = .int .i64 (j : Int) ∧ wr = w) (fun _ i _ => m - (intOf i).toNat)
  case atStart => exact ⟨0, Nat.zero_le _, rfl, rfl, rfl⟩
  case round =>
    obtain ⟨j, hj, rfl, rfl, rfl⟩ := hrel
    by_cases hlt : j < m
    · have hjl : j < l.length := by have := HM.out; omega
      have hst : widN (l.take (j + 1)) = max (widN (l.take j)) (Lib.bitLen l[j]) := by rw [List.take_succ_eq_append_getElem hjl, widN_snoc]
      have hx := HU.out l[j] (List.getElem_mem _)
      obtain ⟨b, o, rfl⟩ := hc.addr (by rw [ucells_length]; omega)
      have x0 : wr.cell? ⟨b, o + j, none⟩ = some (.int .u64 ((l[j] : Nat) : Int)) := hc.at (by simp [ucells, hjl])
      have h6 := widN_le64 (l.take j)
      have hb6 := bitLen_le64 l[j]
      have HC := Lib.hid (fun w => rbitsN_any l[j] w hx)
      have HST := Lib.hid hst
      generalize Lib.bitLen l[j] = x at hb6 HC HST
      generalize l[j] = x1 at x0 hx HC
      generalize widN (l.take j) = y at h6 HST ⊢
      clear hst hjl
      go_wp2_with (first | (at_make; refine Stop.un ?_) | (at_builtin; refine Stop.un ?_) | (with_reducible refine Stop.conv 24 9 ?_) | (with_reducible refine Stop.conv 9 24 ?_))
      refine (HC.out _).mono ?_
      rintro e w1 ⟨rfl, rfl⟩
      go_wp2_with (first | (at_make; refine Stop.un ?_) | (at_builtin; refine Stop.un ?_) | (with_reducible refine Stop.conv 24 9 ?_) | (with_reducible refine Stop.conv 9 24 ?_))
      go_roundw
      case rel => exact ⟨j + 1, by omega, by rw [HST.out]; first | rfl | (congr 1; omega), by go_num, True.intro⟩
      case measure => simp [intOf]; omega
    · have hjm : j = m := by omega
      rw [List.take_of_length_le (by have := HM.out; omega)]
      go_wp2_with (first | (at_make; refine Stop.un ?_) | (at_builtin; refine Stop.un ?_) | (with_reducible refine Stop.conv 24 9 ?_) | (with_reducible refine Stop.conv 9 24 ?_))
      go_ret
      exact ⟨rfl, rfl⟩
end Go.Proofs.Ytcjnehlbkjpgbaa
