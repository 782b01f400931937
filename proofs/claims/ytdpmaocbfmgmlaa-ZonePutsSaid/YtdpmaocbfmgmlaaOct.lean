/- What octets.zig and Int return. -/
import Derived.Test.YtdpmaocbfmgmlaaNum
set_option linter.unusedVariables false
set_option linter.unusedSimpArgs false
namespace Go.Proofs.Ytdpmaocbfmgmlaa
open Go.RowKit
set_option maxHeartbeats 400000 in
theorem zig_any (n : Int) (w : World) (h0 : -9223372036854775808 ≤ n) (h1 : n ≤ 9223372036854775807) :
    Calls Try.prog 68 #[.int .i64 n] w (fun e w' => e = .returned (.int .u64 (Lib.zigzag n)) ∧ w = w') := by
  by_cases hp : 0 ≤ n
  · go_enter Try.func68, Try.ntmps68
    go_wp2
    go_ret
    exact ⟨by rw [zig_xor_pos n hp h1]; rfl, rfl⟩
  · have hq : n < 0 := by omega
    clear hp
    go_enter Try.func68, Try.ntmps68
    go_wp2
    go_ret
    exact ⟨by rw [zig_xor_neg n hq h0]; rfl, rfl⟩

/-- A number that may be below 0, as bytes. -/
def intB (n : Int) : List UInt8 := numB (Lib.zigzag n)

set_option maxHeartbeats 400000 in
theorem int_any (ao : Option Addr) (m cap : Nat) (bs : List UInt8) (n : Int) (w : World) (hc : Cs w ao (bcells bs)) (hm : bs.length = m) (hl : m ≤ 140737488355000) (h0 : -9223372036854775808 ≤ n) (h1 : n ≤ 9223372036854775807) :
    Calls Try.prog 49 #[.slice ao m cap, .int .i64 n] w (RetB w (bs ++ intB n)) := by
  have Hm := Lib.hid hm; clear hm
  go_enter Try.func49, Try.ntmps49
  go_wp2_with (first | (at_make; refine Stop.un ?_) | (at_builtin; refine Stop.un ?_))
  refine (zig_any n _ h0 h1).mono ?_
  rintro e w1 ⟨rfl, rfl⟩
  have hz := Lib.zigzag_lt h0 h1
  generalize hZ : Lib.zigzag n = Z at hz
  have HZ := Lib.hid hZ; clear hZ
  go_wp2_with (first | (at_make; refine Stop.un ?_) | (at_builtin; refine Stop.un ?_))
  refine (num_any ao m cap bs Z _ hc Hm.out hl (by omega) (by omega)).mono ?_
  rintro e w2 ⟨ao2, n2, cap2, hn2, rfl, hO⟩
  have Hn2 := Lib.hid hn2; clear hn2
  go_wp2_with (first | (at_make; refine Stop.un ?_) | (at_builtin; refine Stop.un ?_))
  go_ret
  have e := HZ.out
  rw [Int.toNat_natCast] at hO Hn2
  exact ⟨ao2, n2, cap2, by rw [intB, e]; exact Hn2.out, rfl, by rw [intB, e]; exact hO⟩
end Go.Proofs.Ytdpmaocbfmgmlaa
