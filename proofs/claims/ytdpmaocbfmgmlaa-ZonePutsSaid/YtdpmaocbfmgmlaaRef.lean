/- What the reference's Num, Zig and Int return. -/
import Derived.Test.YtdpmaocbfmgmlaaOct
set_option linter.unusedVariables false
set_option linter.unusedSimpArgs false
namespace Go.Proofs.Ytdpmaocbfmgmlaa
open Go.RowKit
set_option maxHeartbeats 400000 in
theorem rnum_any (ao : Option Addr) (m cap : Nat) (bs : List UInt8) (n : Int) (w : World) (hc : Cs w ao (bcells bs)) (hm : bs.length = m) (hl : m ≤ 140737488355000) (h0 : 0 ≤ n) (h1 : n ≤ 18446744073709551615) :
    Calls Try.prog 72 #[.slice ao m cap, .int .u64 n] w (RetB w (bs ++ numB n.toNat)) := by
  have Hm := Lib.hid hm; clear hm
  go_enter Try.func72, Try.ntmps72
  go_wp2_with (first | (at_make; refine Stop.un ?_) | (at_builtin; refine Stop.un ?_))
  have hO : OwnB w (w.alloc (.cells #[] 5)) (.slice (some ⟨w.heap.size, 0, none⟩) 0 0) 0 [] := Own.block (Below.refl _ _) rfl (by decide)
  refine Stop.mk (app_bs w _ _ rfl rfl hO rfl rfl Hm.out (hc.alloc _) (by omega) ?_)
  intro ao2 cap2 w2 hO2
  simp only [Nat.zero_add, List.nil_append] at hO2
  clear hc hO
  by_cases hlt : n < 248
  · go_wp2_with (first | (at_make; refine Stop.un ?_) | (at_builtin; refine Stop.un ?_))
    refine Stop.mk (app_b1 w _ _ rfl rfl hO2 rfl (by omega) (by omega) rfl (by omega) ?_)
    intro ao3 cap3 w3 hO3
    clear hO2
    go_wp2_with (first | (at_make; refine Stop.un ?_) | (at_builtin; refine Stop.un ?_))
    go_ret
    refine ⟨_, _, _, ?_, rfl, ?_⟩
    · rw [← Hm.out]; simp [numB, show n.toNat < 248 by omega]
    · simpa [numB, show n.toNat < 248 by omega] using hO3
  · have hge : 248 ≤ n := by omega
    clear hlt
    have hN : n.toNat < 18446744073709551616 := by omega
    have HN := Lib.hid hN; clear hN
    go_wp2_with (first | (at_make; refine Stop.un ?_) | (at_builtin; refine Stop.un ?_))
    go_loopw [1, 6] (fun x v wr => ∃ (j : Nat) (r : Int) (ao : Option Addr) (cap : Nat), j ≤ 8 ∧ 0 ≤ r ∧ r ≤ 18446744073709551615 ∧ x = .int .u64 r ∧ v = .slice ao j cap ∧ OwnB w2 wr (.slice ao j cap) j (be j n.toNat) ∧ Hid (r.toNat = n.toNat / 256 ^ j) ∧ Hid (j = 0 ∨ n.toNat / 256 ^ (j - 1) ≠ 0)) (fun x _ _ => (intOf x).toNat)
    case atStart =>
      exact ⟨0, n, none, 0, by omega, by omega, by omega, rfl, rfl, Own.nil _ _ (Below.refl _ _), Lib.hid (by simp), Lib.hid (.inl rfl)⟩
    case round =>
      obtain ⟨j, r, ao4, cap4, hj, hr0, hr1, rfl, rfl, hO4, hr4, hj4⟩ := hrel
      by_cases hrz : r = 0
      · subst hrz
        have hfin : be j n.toNat = be (nbytes n.toNat) n.toNat ∧ j = nbytes n.toNat := by
          have e := nbytes_eq n.toNat j HN.out (by have := hr4.out; simpa using this.symm) hj4.out
          rw [e]; exact ⟨rfl, rfl⟩
        have Hf := Lib.hid hfin; clear hfin
        have hO3 := Own.keep hO2 (Own.below hO4)
        go_wp2_with (first | (at_make; refine Stop.un ?_) | (at_builtin; refine Stop.un ?_))
        refine Stop.mk (app_b1' w _ _ rfl rfl hO3 rfl (by omega) (by omega) rfl (by omega) ?_)
        intro ao5 cap5 w5 hO5 hg5
        have hc5 := Own.cs_grown hO4 hg5 (Own.lt hO2)
        clear hO4 hO3 hg5
        go_wp2_with (first | (at_make; refine Stop.un ?_) | (at_builtin; refine Stop.un ?_))
        refine Stop.mk (app_bs w _ _ rfl rfl hO5 rfl rfl (be_length _ _) hc5 (by omega) ?_)
        intro ao6 cap6 w6 hO6
        clear hO5
        go_wp2_with (first | (at_make; refine Stop.un ?_) | (at_builtin; refine Stop.un ?_))
        go_ret
        have e : bs ++ [UInt8.ofNat (247 + (j : Int)).toNat] ++ be j n.toNat = bs ++ numB n.toNat := by
          obtain ⟨e1, e2⟩ := Hf.out
          rw [numB, if_neg (by omega), ← e1, ← e2, List.append_assoc]
          rfl
        rw [e] at hO6
        exact ⟨_, _, _, OwnB.length hO6, rfl, hO6⟩
      · have hrp : 0 < r := by omega
        have hj8 : j < 8 := by
          by_cases hlt : j < 8
          · exact hlt
          · have : j = 8 := by omega
            subst this
            have := hr4.out
            have := HN.out
            omega
        clear hrz
        go_wp2_with (first | (at_make; refine Stop.un ?_) | (at_builtin; refine Stop.un ?_))
        have hN : OwnB w2 (wr.alloc (.cells #[.int .u8 (r % 256)] 5)) (.slice (some ⟨wr.heap.size, 0, none⟩) 1 1) 1 [UInt8.ofNat (r % 256).toNat] := by
          have h := Own.block (e := 5) (size := 1) (n := 1) (cs := #[.int .u8 (r % 256)]) (Own.below hO4) rfl (by decide)
          rw [OwnB, bcells_int (r % 256) (by omega) (by omega)]; exact h
        refine Stop.mk (app_bs w2 _ _ rfl rfl hN rfl rfl (be_length _ _) ((Own.cs hO4).alloc _) (by omega) ?_)
        intro ao5 cap5 w5 hO5
        clear hO4 hN
        go_wp2_with fail
        go_roundw
        case rel =>
          refine ⟨j + 1, r / 256, ao5, cap5, by omega, by omega, by omega, rfl, by rw [Nat.add_comm], ?_, Lib.hid ?_, Lib.hid (.inr ?_)⟩
          · rw [be, Nat.add_comm j 1, ← hr4.out, show r.toNat % 256 = (r % 256).toNat by omega]
            exact hO5
          · rw [Nat.pow_succ, ← Nat.div_div_eq_div_mul, ← hr4.out]; omega
          · rw [Nat.add_sub_cancel, ← hr4.out]; omega
        case measure => simp [intOf]; omega
set_option maxHeartbeats 400000 in
theorem rzig_any (n : Int) (w : World) (h0 : -9223372036854775808 ≤ n) (h1 : n ≤ 9223372036854775807) :
    Calls Try.prog 73 #[.int .i64 n] w (fun e w' => e = .returned (.int .u64 (Lib.zigzag n)) ∧ w = w') := by
  by_cases hp : 0 ≤ n
  · have hz : (Lib.zigzag n : Int) = 2 * n := by unfold Lib.zigzag; rw [if_pos hp]; omega
    rw [hz]; clear hz
    go_enter Try.func73, Try.ntmps73
    go_wp2
    go_ret
    exact ⟨rfl, rfl⟩
  · have hz : (Lib.zigzag n : Int) = -2 * n - 1 := by unfold Lib.zigzag; rw [if_neg hp]; omega
    rw [hz]; clear hz
    have hq : n < 0 := by omega
    clear hp
    go_enter Try.func73, Try.ntmps73
    go_wp2
    go_ret
    exact ⟨congrArg Ending.returned (congrArg (Value.int IntKind.u64) (by omega)), rfl⟩

set_option maxHeartbeats 400000 in
theorem rint_any (ao : Option Addr) (m cap : Nat) (bs : List UInt8) (n : Int) (w : World) (hc : Cs w ao (bcells bs)) (hm : bs.length = m) (hl : m ≤ 140737488355000) (h0 : -9223372036854775808 ≤ n) (h1 : n ≤ 9223372036854775807) :
    Calls Try.prog 52 #[.slice ao m cap, .int .i64 n] w (RetB w (bs ++ intB n)) := by
  have Hm := Lib.hid hm; clear hm
  go_enter Try.func52, Try.ntmps52
  go_wp2_with (first | (at_make; refine Stop.un ?_) | (at_builtin; refine Stop.un ?_))
  refine (rzig_any n _ h0 h1).mono ?_
  rintro e w1 ⟨rfl, rfl⟩
  have hz := Lib.zigzag_lt h0 h1
  generalize hZ : Lib.zigzag n = Z at hz
  have HZ := Lib.hid hZ; clear hZ
  go_wp2_with (first | (at_make; refine Stop.un ?_) | (at_builtin; refine Stop.un ?_))
  refine (rnum_any ao m cap bs Z _ hc Hm.out hl (by omega) (by omega)).mono ?_
  rintro e w2 ⟨ao2, n2, cap2, hn2, rfl, hO⟩
  have Hn2 := Lib.hid hn2; clear hn2
  go_wp2_with (first | (at_make; refine Stop.un ?_) | (at_builtin; refine Stop.un ?_))
  go_ret
  have e := HZ.out
  rw [Int.toNat_natCast] at hO Hn2
  exact ⟨ao2, n2, cap2, by rw [intB, e]; exact Hn2.out, rfl, by rw [intB, e]; exact hO⟩
end Go.Proofs.Ytdpmaocbfmgmlaa
