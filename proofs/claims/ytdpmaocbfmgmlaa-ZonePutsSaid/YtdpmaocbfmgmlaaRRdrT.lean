/- The reference's reader: Text. -/
import Derived.Test.YtdpmaocbfmgmlaaRRdr
import Derived.Test.YtdpmaocbfmgmlaaRdrT
set_option linter.unusedVariables false
set_option linter.unusedSimpArgs false
namespace Go.Proofs.Ytdpmaocbfmgmlaa
open Go.RowKit
set_option maxHeartbeats 1000000 in
set_option maxRecDepth 100000 in
theorem rrtext_any (e0 : TypeId) (B T : Nat) (g : Nat) (l : List UInt8) (bad : Bool) (w : World) (h : Rdr e0 B T w g l bad) :
    Calls Try.prog 63 #[.pointer (some ⟨g, 0, none⟩)] w (fun e w' => e = .returned (.string (strOf (rdT l))) ∧ Rdr e0 B T w' g (rdTRest l) (bad || rdTBad l) ∧ w.grownBy w' (some g)) := by
  have c1 := Lib.hid (rrnum_any e0 B T g l bad w h)
  clear h
  have E : Hid (rdText l = if rdN l > 1024 ∨ rdN l > (rdRest l).length then none else some ((rdRest l).take (rdN l))) := Lib.hid rfl
  have E1 : Hid (rdT l = match rdText l with | none => [] | some s => s) := Lib.hid rfl
  have E2 : Hid (rdTRest l = match rdText l with | none => [] | some _ => (rdRest l).drop (rdN l)) := Lib.hid rfl
  have E3 : Hid (rdTBad l = (rdBad l || (rdText l).isNone)) := Lib.hid rfl
  generalize rdN l = N at c1 E E1 E2 E3
  generalize rdRest l = R at c1 E E1 E2 E3
  generalize rdBad l = D at c1 E E1 E2 E3
  by_cases hbig : (1024 : Int) < (N : Int)
  · go_enter Try.func63, Try.ntmps63
    go_wp2_with (first | (at_make; refine Stop.un ?_) | (at_builtin; refine Stop.un ?_))
    refine (c1.out).mono ?_
    rintro e w1 ⟨rfl, ⟨ao, n, cap, hh, hl, hn, hcap, hc, HB, hne⟩, hg⟩
    have HH := Lib.hid hh
    clear hh hne hcap hc
    go_wp2_with (first | (at_make; refine Stop.un ?_) | (at_builtin; refine Stop.un ?_))
    refine (rfail_any e0 B T g HB _ _ HH.out rfl).mono ?_
    rintro e w2 ⟨rfl, hr2, hg2⟩
    go_wp2_with (first | (at_make; refine Stop.un ?_) | (at_builtin; refine Stop.un ?_))
    go_ret
    have e : rdText l = none := by rw [E.out, if_pos (.inl (by omega))]
    rw [E1.out, E2.out, E3.out, e]
    exact ⟨rfl, by simpa using hr2, grown_trans hg hg2⟩
  · have hsm : (N : Int) ≤ 1024 := by omega
    clear hbig
    by_cases hlen : R.length < N
    · go_enter Try.func63, Try.ntmps63
      go_wp2_with (first | (at_make; refine Stop.un ?_) | (at_builtin; refine Stop.un ?_))
      refine (c1.out).mono ?_
      rintro e w1 ⟨rfl, ⟨ao, n, cap, hh, hl, hn, hcap, hc, HB, hne⟩, hg⟩
      have HH := Lib.hid hh
      have h0 := cell_of hh 0
      simp at h0
      have hlt : (n : Int) < (N : Int) := by omega
      have hnb : n ≤ 140737488355328 := by omega
      have HL := Lib.hid hlen
      clear hh hne hcap hc hl hlen
      go_wp2_with (first | (at_make; refine Stop.un ?_) | (at_builtin; refine Stop.un ?_))
      refine (rfail_any e0 B T g HB _ _ HH.out rfl).mono ?_
      rintro e w2 ⟨rfl, hr2, hg2⟩
      go_wp2_with (first | (at_make; refine Stop.un ?_) | (at_builtin; refine Stop.un ?_))
      go_ret
      have e : rdText l = none := by rw [E.out, if_pos (.inr HL.out)]
      rw [E1.out, E2.out, E3.out, e]
      exact ⟨rfl, by simpa using hr2, grown_trans hg hg2⟩
    · have hge : N ≤ R.length := by omega
      go_enter Try.func63, Try.ntmps63
      go_wp2_with (first | (at_make; refine Stop.un ?_) | (at_builtin; refine Stop.un ?_))
      refine (c1.out).mono ?_
      rintro e w1 ⟨rfl, ⟨ao, n, cap, hh, hl, hn, hcap, hc, HB, hne⟩, hg⟩
      have HH := Lib.hid hh
      have h0 := cell_of hh 0
      have hf0 := free_of hh 0
      simp at h0
      have hlt : N ≤ n := by omega
      have hnb : n ≤ 140737488355328 := by omega
      have HR := Lib.hid hge
      have Hl := Lib.hid hl
      have Hn := Lib.hid hne
      have Hcap := Lib.hid hcap
      have hct := hc.take N
      rw [show (bcells R).take N = bcells (R.take N) from by simp [bcells]] at hct
      clear hh hne hcap hl hge hlen
      go_wp2_with (first | (at_make; refine Stop.un ?_) | (at_builtin; refine Stop.un ?_) | (with_reducible refine Stop.conv 40 9 ?_) | (with_reducible refine Stop.conv 9 40 ?_))
      refine Stop.mk (wpList_conv Try.underlying40 Try.underlying5 Try.underlying9 _ rfl rfl rfl (show (R.take N).length = N by rw [List.length_take]; have := HR.out; omega) hct ?_)
      go_wp2_with (first | (at_make; refine Stop.un ?_) | (at_builtin; refine Stop.un ?_) | (with_reducible refine Stop.conv 40 9 ?_) | (with_reducible refine Stop.conv 9 40 ?_))
      all_goals go_ret
      all_goals
        have e : rdText l = some (R.take N) := by rw [E.out, if_neg (by have := HR.out; omega)]
        rw [E1.out, E2.out, E3.out, e]
      all_goals simp only [Option.isNone_some, Bool.or_false]
      · refine ⟨rfl, ?_, grown_trans hg (grown_set _ _ _ _)⟩
        have hr0 : R.drop N = [] := List.drop_eq_nil_of_le (by have := Hl.out; omega)
        rw [hr0]
        exact rdr_set HH.out (by have := Hl.out; simp; omega) (by omega) (by omega) (Cs.nil _ _) HB Hn.out
      · refine ⟨rfl, ?_, grown_trans hg (grown_set _ _ _ _)⟩
        have hd := hc.dropMap N
        rw [show (bcells R).drop N = bcells (R.drop N) from by simp [bcells]] at hd
        refine rdr_set HH.out (by have := Hl.out; rw [List.length_drop]; omega) (by omega) (by have := Hcap.out; omega) hd HB ?_
        intro a ha
        obtain ⟨x, hx, rfl⟩ := Option.map_eq_some_iff.1 ha
        rw [block_add]; exact Hn.out x hx
end Go.Proofs.Ytdpmaocbfmgmlaa
