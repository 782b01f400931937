/- A new filter; few values. -/
import Derived.Test.YtfakpmikflaofaaBMay
import Derived.Test.YtfakpmikflaofaaVRow
import Derived.OwnWalk
set_option linter.unusedVariables false
set_option linter.unusedSimpArgs false
namespace Go.Proofs.Ytfakpmikflaofaa
open Go.RowKit
theorem own_at {w : World} {base e size n g : Nat} {xs : List Value} (h : w.ownsRow base e size (.slice (some ⟨g, 0, none⟩) n n) n xs) : At w g xs.toArray e := by
  rcases h.2 with ⟨h', _⟩ | ⟨g', cap', cur, h', _, hg, _, _, hcs, htake⟩
  · simp at h'
  · simp only [Value.slice.injEq, Option.some.injEq, Addr.mk.injEq, and_true, true_and] at h'
    obtain ⟨rfl, rfl⟩ := h'
    have e1 : cur.toList = xs := by rw [← htake]; exact (List.take_of_length_le (by simp [hcs])).symm
    unfold At
    rw [hg, ← e1]
def newOk (M E : Int) : Prop := 1 ≤ M ∧ M ≤ 8192 ∧ 1 ≤ E ∧ E ≤ 8
theorem new_bad (M E : Int) (w : World) (h : ¬ newOk M E) : Calls Try.prog 9 #[.int .i64 M, .int .i64 E] w (fun e w' => e = .returned (.tuple #[.pointer none, .int .i64 1]) ∧ w = w') := by
  unfold newOk at h
  have HS := Lib.hid (fun w => size_any M w)
  by_cases h1 : M < 1 ∨ 8192 < M
  · have hs : sizeN M = 0 := if_pos h1
    rw [hs] at HS
    clear hs h h1
    go_enter Try.func9, Try.ntmps9
    go_wp2_with (first | (at_make; refine Stop.un ?_) | (at_builtin; refine Stop.un ?_) | (with_reducible refine Stop.conv 32 9 ?_) | (with_reducible refine Stop.conv 9 32 ?_))
    refine (HS.out _).mono ?_
    rintro e w1 ⟨rfl, rfl⟩
    go_wp2_with (first | (at_make; refine Stop.un ?_) | (at_builtin; refine Stop.un ?_) | (with_reducible refine Stop.conv 32 9 ?_) | (with_reducible refine Stop.conv 9 32 ?_))
    go_ret2
    exact ⟨rfl, rfl⟩
  · have hs : sizeN M = (M + 7) / 8 := if_neg h1
    rw [hs] at HS
    obtain ⟨q, hq⟩ : ∃ q : Int, (M + 7) / 8 = q := ⟨_, rfl⟩
    have hq1 : 1 ≤ q := by omega
    rw [hq] at HS
    have hq0 : (q == 0) = false := by simp; omega
    have h2 : E < 1 ∨ (1 ≤ E ∧ 8 < E) := by omega
    clear hs h h1 hq
    go_enter Try.func9, Try.ntmps9
    go_wp2_with (first | (at_make; refine Stop.un ?_) | (at_builtin; refine Stop.un ?_) | (with_reducible refine Stop.conv 32 9 ?_) | (with_reducible refine Stop.conv 9 32 ?_))
    refine (HS.out _).mono ?_
    rintro e w1 ⟨rfl, rfl⟩
    rcases h2 with h2 | ⟨h2, h3⟩
    · go_wp2_with (first | (at_make; refine Stop.un ?_) | (at_builtin; refine Stop.un ?_) | (with_reducible refine Stop.conv 32 9 ?_) | (with_reducible refine Stop.conv 9 32 ?_))
      go_ret2
      exact ⟨rfl, rfl⟩
    · go_wp2_with (first | (at_make; refine Stop.un ?_) | (at_builtin; refine Stop.un ?_) | (with_reducible refine Stop.conv 32 9 ?_) | (with_reducible refine Stop.conv 9 32 ?_))
      go_ret2
      exact ⟨rfl, rfl⟩
def zeros (M : Nat) : List UInt8 := List.replicate ((M + 7) / 8) 0
theorem zeros_length (M : Nat) : (zeros M).length = (M + 7) / 8 := by simp [zeros]
set_option maxHeartbeats 2000000 in
theorem new_any (M E : Nat) (w : World) (hM : 1 ≤ M) (hM2 : M ≤ 8192) (hE : 1 ≤ E) (hE2 : E ≤ 8) : Calls Try.prog 9 #[.int .i64 (M : Int), .int .i64 (E : Int)] w (fun e w' => ∃ g b, e = .returned (.tuple #[.pointer (some ⟨g, 0, none⟩), .int .i64 0]) ∧ w.heap.size ≤ g ∧ w.heap.size ≤ b ∧ Flt w' g b M E (zeros M) ∧ Below w.heap.size w w') := by
  have HS := Lib.hid (fun w => size_any M w)
  have hs : sizeN M = (((M + 7) / 8 : Nat) : Int) := by unfold sizeN; rw [if_neg (by omega)]; omega
  have HZ := Lib.hid (zeros_length M)
  have hz : zeros M = List.replicate ((M + 7) / 8) 0 := rfl
  have HZ2 := Lib.hid hz
  rw [hs] at HS
  have hn1 : 1 ≤ (M + 7) / 8 := by omega
  have hn2 : (M + 7) / 8 ≤ 2000 := by omega
  generalize zeros M = zs at HZ HZ2 ⊢
  generalize (M + 7) / 8 = n at HS hn1 hn2 HZ HZ2
  have hn0 : n ≠ 0 := by omega
  have hq0 : ((n : Int) == 0) = false := by simp; omega
  clear hs hz
  obtain ⟨i0, hi, hz0, hz1, hz2⟩ := info_parts Try.infoU8
  go_enter Try.func9, Try.ntmps9
  go_wp2_with (first | (at_make; refine Stop.un ?_) | (at_builtin; refine Stop.un ?_) | (with_reducible refine Stop.conv 32 9 ?_) | (with_reducible refine Stop.conv 9 32 ?_))
  refine (HS.out _).mono ?_
  rintro e w1 ⟨rfl, rfl⟩
  go_wp2_with (first | (at_make; refine Stop.un ?_) | (at_builtin; refine Stop.un ?_) | (with_reducible refine Stop.conv 32 9 ?_) | (with_reducible refine Stop.conv 9 32 ?_))
  refine (HS.out _).mono ?_
  rintro e w1 ⟨rfl, rfl⟩
  go_wp2_with (first | (at_make; refine Stop.un ?_) | (at_builtin; refine Stop.un ?_) | (with_reducible refine Stop.conv 32 9 ?_) | (with_reducible refine Stop.conv 9 32 ?_))
  refine Stop.mk (wpList_make_full _ rfl _ _ 32 rfl w.heap.size 5 i0 (.int .u8 0) 1 Try.underlying32 hi hz0 hz1 _ _ _ _ n rfl rfl rfl rfl (by rw [hz2]; omega) (by unfold maxLen; omega) (Nat.le_refl _) ?_)
  intro w7 o7 g7
  have b7 : Below w.heap.size w w7 := (Below.refl _ _).grown g7 (Nat.le_refl _) (fun _ h => by cases h)
  have k7 := own_at o7
  have hlt := k7.lt
  rw [show (madeCells (Value.int .u8 0).cells (n * 1)).toList = bcells zs from by rw [HZ2.out]; simp [bcells, Value.cells, toList_madeCells_one]] at k7
  clear o7 g7 hz2 hz1 hz0 hi i0
  go_wp2_with (first | (at_make; refine Stop.un ?_) | (at_builtin; refine Stop.un ?_) | (with_reducible refine Stop.conv 32 9 ?_) | (with_reducible refine Stop.conv 9 32 ?_))
  go_ret2
  refine ⟨_, w.heap.size, rfl, by have := b7.size; omega, Nat.le_refl _, ⟨?_, k7.alloc _, by omega⟩, b7.alloc (by omega) _⟩
  rw [HZ.out]
  exact At.new w7 _ _
set_option maxHeartbeats 1000000 in
theorem few_any (ao : Option Addr) (m cap : Nat) (l : List V) (w : World) (hc : Cs w ao (vcells l)) (hm : l.length = m) (hl : m ≤ cap) (hcm : cap ≤ maxLen) (hs : ∀ v ∈ l, v.s.size ≤ maxLen) :
    Calls Try.prog 10 #[.slice ao m cap] w (fun e w' => ∃ f : Nat, f ≤ m ∧ f ≤ 100 ∧ e = .returned (.slice ao f cap) ∧ Hid (∀ v ∈ l.take f, v.s.size ≤ 200) ∧ Below w.heap.size w w') := by
  unfold maxLen at hcm
  have HM := Lib.hid hm
  have HS := Lib.hid hs
  clear hm hs
  go_enter Try.func10, Try.ntmps10
  go_wp2_with (first | (at_make; refine Stop.un ?_) | (at_builtin; refine Stop.un ?_) | (with_reducible refine Stop.conv 32 9 ?_) | (with_reducible refine Stop.conv 9 32 ?_))
  go_loopw [3, 4, 7] (fun _ _ i wr => ∃ j : Nat, j ≤ m ∧ j ≤ 100 ∧ i = .int .i64 (j : Int) ∧ Below w.heap.size w wr ∧ Hid (∀ v ∈ l.take j, v.s.size ≤ 200)) (fun _ _ i _ => m - (intOf i).toNat)
  case atStart => exact ⟨0, Nat.zero_le _, by omega, rfl, Below.refl _ _, Lib.hid (by simp)⟩
  case round =>
    obtain ⟨j, hj, hj1, rfl, hb, HL⟩ := hrel
    by_cases hlt : j < m
    · have hjl : j < l.length := by have := HM.out; omega
      obtain ⟨b, o, rfl⟩ := hc.addr (by rw [vcells_length]; omega)
      obtain ⟨x0, x1, x2⟩ := (hc.mono hb (Nat.le_refl _)).vat hjl
      have hsz := HS.out l[j] (List.getElem_mem _)
      have hst : l[j].s.size ≤ 200 → ∀ v ∈ l.take (j + 1), v.s.size ≤ 200 := by
        intro h v hv
        rw [List.take_succ_eq_append_getElem hjl] at hv
        rcases List.mem_append.1 hv with hv | hv
        · exact HL.out v hv
        · rw [List.mem_singleton.1 hv]; exact h
      generalize l[j] = v at x0 x1 x2 hsz hst
      obtain ⟨k, n, s⟩ := v
      simp only at x0 x1 x2 hsz hst
      unfold maxLen at hsz
      have HST := Lib.hid hst
      have bz := (Below.refl wr.heap.size wr).alloc (Nat.le_refl _) (.cells #[.int .u8 k, .int .i64 n, .string s] 30)
      clear hst hjl
      by_cases h1 : 100 ≤ j
      · have h2 : decide ((100 : Int) ≤ j) = true := by simp; omega
        go_wp2_with (first | (at_make; refine Stop.un ?_) | (at_builtin; refine Stop.un ?_) | (with_reducible refine Stop.conv 32 9 ?_) | (with_reducible refine Stop.conv 9 32 ?_))
        go_ret
        exact ⟨j, hj, hj1, rfl, HL, hb.next bz⟩
      · have h2 : decide ((100 : Int) ≤ j) = false := by simp; omega
        by_cases h3 : 200 < s.size
        · have h4 : decide ((200 : Int) < s.size) = true := by simp; omega
          go_wp2_with (first | (at_make; refine Stop.un ?_) | (at_builtin; refine Stop.un ?_) | (with_reducible refine Stop.conv 32 9 ?_) | (with_reducible refine Stop.conv 9 32 ?_))
          go_ret
          exact ⟨j, hj, hj1, rfl, HL, hb.next bz⟩
        · have h4 : decide ((200 : Int) < s.size) = false := by simp; omega
          have HL2 := Lib.hid (HST.out (by omega))
          go_wp2_with (first | (at_make; refine Stop.un ?_) | (at_builtin; refine Stop.un ?_) | (with_reducible refine Stop.conv 32 9 ?_) | (with_reducible refine Stop.conv 9 32 ?_))
          go_roundw
          case rel => exact ⟨j + 1, by omega, by omega, by go_num, hb.next bz, HL2⟩
          case measure => simp [intOf]; omega
    · have hjm : j = m := by omega
      subst hjm
      go_wp2_with (first | (at_make; refine Stop.un ?_) | (at_builtin; refine Stop.un ?_) | (with_reducible refine Stop.conv 32 9 ?_) | (with_reducible refine Stop.conv 9 32 ?_))
      go_ret
      exact ⟨j, Nat.le_refl _, hj1, rfl, HL, hb⟩
end Go.Proofs.Ytfakpmikflaofaa
