/- Is a number among numbers? -/
import Derived.Test.YtbiniecjenencaaInts
import Derived.Test.YtbiniecjenencaaAt
set_option linter.unusedVariables false
set_option linter.unusedSimpArgs false
set_option maxRecDepth 10000
namespace Go.Proofs.Ytbiniecjenencaa
open Go.RowKit
set_option maxHeartbeats 1000000 in
theorem gindex_any (ao : Option Addr) (m cap : Nat) (l : List Int) (x : Int) (w : World) (hc : Cs w ao (icells l)) (hm : l.length = m) (hlc : m ≤ cap) (hl : cap ≤ maxLen) :
    Calls Try.prog 46 #[.slice ao m cap, .int .i64 x] w (fun e w' => ∃ i : Int, e = .returned (.int .i64 i) ∧ (0 ≤ i ↔ x ∈ l) ∧ w = w') := by
  unfold maxLen at hl
  have HM := Lib.hid hm
  clear hm
  go_enter Try.func46, Try.ntmps46
  go_wp2_with (first | (at_make; refine Stop.un ?_) | (at_builtin; refine Stop.un ?_) | (with_reducible refine Stop.conv 22 9 ?_) | (with_reducible refine Stop.conv 9 22 ?_))
  go_loopw [8] (fun c wr => ∃ j : Nat, j ≤ m ∧ c = .int .i64 (j : Int) ∧ wr = w ∧ Hid (x ∉ l.take j)) (fun c _ => m - (intOf c).toNat)
  case atStart => exact ⟨0, Nat.zero_le _, rfl, rfl, Lib.hid (by simp)⟩
  case round =>
    obtain ⟨j, hj, rfl, rfl, HX⟩ := hrel
    by_cases hlt : j < m
    · have hjl : j < l.length := by have := HM.out; omega
      obtain ⟨b, o, rfl⟩ := hc.addr (by rw [icells_length]; omega)
      have x1 : wr.cell? ⟨b, o + j, none⟩ = some (.int .i64 l[j]) := hc.at (by simp [icells, hjl])
      have hT : l.take (j + 1) = l.take j ++ [l[j]] := List.take_succ_eq_append_getElem hjl
      have hmem : l[j] ∈ l := List.getElem_mem _
      generalize l[j] = y at x1 hT hmem
      by_cases he : x = y
      · subst he
        have hIn := Lib.hid hmem
        clear hT hmem HX hjl
        go_wp2_with (first | (at_make; refine Stop.un ?_) | (at_builtin; refine Stop.un ?_) | (with_reducible refine Stop.conv 22 9 ?_) | (with_reducible refine Stop.conv 9 22 ?_))
        go_ret
        exact ⟨_, rfl, ⟨fun _ => hIn.out, fun _ => by omega⟩, rfl⟩
      · have hb : (x == y) = false := by simpa using he
        have HX2 : Hid (x ∉ l.take (j + 1)) := Lib.hid (by rw [hT, List.mem_append, List.mem_singleton]; exact fun h => h.elim HX.out he)
        clear hT hmem HX hjl he
        go_wp2_with (first | (at_make; refine Stop.un ?_) | (at_builtin; refine Stop.un ?_) | (with_reducible refine Stop.conv 22 9 ?_) | (with_reducible refine Stop.conv 9 22 ?_))
        go_roundw
        case rel => exact ⟨j + 1, by omega, by go_num, True.intro, HX2⟩
        case measure => simp [intOf]; omega
    · have hjm : j = m := by omega
      have hno := HX.out
      rw [List.take_of_length_le (by rw [HM.out]; omega)] at hno
      have HNO := Lib.hid hno
      clear HX hno
      go_wp2_with (first | (at_make; refine Stop.un ?_) | (at_builtin; refine Stop.un ?_) | (with_reducible refine Stop.conv 22 9 ?_) | (with_reducible refine Stop.conv 9 22 ?_))
      go_ret
      exact ⟨_, rfl, ⟨fun h => by omega, fun h => absurd h HNO.out⟩, rfl⟩
set_option maxHeartbeats 1000000 in
theorem gcontains_any (ao : Option Addr) (m cap : Nat) (l : List Int) (x : Int) (w : World) (hc : Cs w ao (icells l)) (hm : l.length = m) (hlc : m ≤ cap) (hl : cap ≤ maxLen) :
    Calls Try.prog 31 #[.slice ao m cap, .int .i64 x] w (fun e w' => e = .returned (.bool (decide (x ∈ l))) ∧ w = w') := by
  have H := Lib.hid (gindex_any ao m cap l x w hc hm hlc hl)
  have HQ : Hid (∃ q : Bool, decide (x ∈ l) = q) := Lib.hid ⟨_, rfl⟩
  obtain ⟨q, hq⟩ := HQ.out
  rw [hq]
  have HQ := Lib.hid hq
  clear hc hm hl hq
  go_enter Try.func31, Try.ntmps31
  go_wp2_with (first | (at_make; refine Stop.un ?_) | (at_builtin; refine Stop.un ?_) | (with_reducible refine Stop.conv 22 9 ?_) | (with_reducible refine Stop.conv 9 22 ?_))
  refine H.out.mono ?_
  rintro e w1 ⟨i, rfl, hi, rfl⟩
  by_cases h0 : 0 ≤ i
  · obtain rfl : q = true := by rw [← HQ.out]; exact decide_eq_true (hi.1 h0)
    clear hi
    go_wp2_with (first | (at_make; refine Stop.un ?_) | (at_builtin; refine Stop.un ?_) | (with_reducible refine Stop.conv 22 9 ?_) | (with_reducible refine Stop.conv 9 22 ?_))
    go_ret
    exact ⟨by simp [h0], rfl⟩
  · obtain rfl : q = false := by rw [← HQ.out]; exact decide_eq_false (fun h => h0 (hi.2 h))
    clear hi
    go_wp2_with (first | (at_make; refine Stop.un ?_) | (at_builtin; refine Stop.un ?_) | (with_reducible refine Stop.conv 22 9 ?_) | (with_reducible refine Stop.conv 9 22 ?_))
    go_ret
    exact ⟨by simp [h0], rfl⟩
/-- Is a number a column? -/
def isCol (n : Nat) (c : Int) : Bool := decide (0 ≤ c) && decide (c < n)
theorem iscol_any (c : Int) (gb : Nat) (ka : Option Addr) (kn kc : Nat) (w : World) (z : At w gb #[.slice ka kn kc] 22) (hl : kn ≤ kc) (hcm : kc ≤ maxLen) :
    Calls Try.prog 30 #[.int .i64 c, .pointer (some ⟨gb, 0, none⟩)] w (fun e w' => e = .returned (.bool (isCol kn c)) ∧ w = w') := by
  unfold maxLen at hcm
  unfold isCol
  have x0 := z.cell 0 rfl
  by_cases h1 : 0 ≤ c
  · have d1 : decide (0 ≤ c) = true := decide_eq_true h1
    go_enter Try.func30, Try.ntmps30
    go_wp2_with (first | (at_make; refine Stop.un ?_) | (at_builtin; refine Stop.un ?_) | (with_reducible refine Stop.conv 22 9 ?_) | (with_reducible refine Stop.conv 9 22 ?_))
    go_ret
    exact ⟨by simp [h1], rfl⟩
  · have d1 : decide (0 ≤ c) = false := decide_eq_false h1
    go_enter Try.func30, Try.ntmps30
    go_wp2_with (first | (at_make; refine Stop.un ?_) | (at_builtin; refine Stop.un ?_) | (with_reducible refine Stop.conv 22 9 ?_) | (with_reducible refine Stop.conv 9 22 ?_))
    go_ret
    exact ⟨by simp [h1], rfl⟩
end Go.Proofs.Ytbiniecjenencaa
