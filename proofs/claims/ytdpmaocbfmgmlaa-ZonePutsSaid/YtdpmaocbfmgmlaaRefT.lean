/- What the reference's Text returns. -/
import Derived.Test.YtdpmaocbfmgmlaaRef
import Derived.Test.YtdpmaocbfmgmlaaOctT
set_option linter.unusedVariables false
set_option linter.unusedSimpArgs false
namespace Go.Proofs.Ytdpmaocbfmgmlaa
open Go.RowKit
set_option maxHeartbeats 400000 in
theorem rtext_any (ao : Option Addr) (m cap : Nat) (bs : List UInt8) (t : ByteArray) (w : World) (hc : Cs w ao (bcells bs)) (hm : bs.length = m) (hl : m + t.size ≤ 140737488355000) :
    Calls Try.prog 71 #[.slice ao m cap, .string t] w (RetB w (bs ++ textB t.data.toList)) := by
  have Hm := Lib.hid hm; clear hm
  go_enter Try.func71, Try.ntmps71
  go_wp2_with (first | (at_make; refine Stop.un ?_) | (at_builtin; refine Stop.un ?_))
  refine (rnum_any ao m cap bs t.size _ hc Hm.out (by omega) (by omega) (by omega)).mono ?_
  rintro e w2 ⟨ao2, n2, cap2, hn2, rfl, hO⟩
  rw [Int.toNat_natCast] at hO hn2
  have hle : n2 ≤ m + 9 := by rw [← hn2, List.length_append, Hm.out]; have := (numB_length t.size).2; omega
  have Hn2 := Lib.hid hn2; clear hn2
  go_wp2_with (first | (at_make; refine Stop.un ?_) | (at_builtin; refine Stop.un ?_) | (with_reducible refine Stop.conv 40 9 ?_) | (with_reducible refine Stop.conv 9 40 ?_))
  refine Stop.mk (wpList_tobytes Try.underlying9 Try.underlying40 Try.underlying5 _ rfl rfl rfl ?_)
  intro ao3 cap3 w3 hc3 hb3
  have hO3 := Own.keep hO hb3
  clear hO
  go_wp2_with (first | (at_make; refine Stop.un ?_) | (at_builtin; refine Stop.un ?_) | (with_reducible refine Stop.conv 40 9 ?_) | (with_reducible refine Stop.conv 9 40 ?_))
  refine Stop.mk (app_bs w _ _ rfl rfl hO3 rfl rfl (data_length t) hc3 (by omega) ?_)
  intro ao4 cap4 w4 hO4
  go_wp2_with (first | (at_make; refine Stop.un ?_) | (at_builtin; refine Stop.un ?_) | (with_reducible refine Stop.conv 40 9 ?_) | (with_reducible refine Stop.conv 9 40 ?_))
  go_ret
  rw [List.append_assoc] at hO4
  exact ⟨_, _, _, OwnB.length hO4, rfl, hO4⟩
end Go.Proofs.Ytdpmaocbfmgmlaa
