/- OrderMore. -/
import Derived.Test.YtoggjieagnlneaaStb
import Derived.Test.YtoggjieagnlneaaOFew
import Derived.Test.YtoggjieagnlneaaOBegins
import Derived.Test.YtoggjieagnlneaaOSortd
set_option linter.unusedVariables false
set_option linter.unusedSimpArgs false
namespace Go.Proofs.Ytoggjieagnlneaa
open Go.RowKit
theorem cmpR_take_le (a b : List V) : ∀ (ks : List Ky) (j : Nat), cmpR a b ks ≤ 0 → cmpR a b (ks.take j) ≤ 0
  | [], j, h => by simpa using h
  | k :: ks, 0, _ => by simp [cmpR]
  | k :: ks, j + 1, h => by
    rw [List.take_succ_cons]
    unfold cmpR at h ⊢
    split
    · rename_i h0
      rw [if_pos h0] at h
      exact cmpR_take_le a b ks j h
    · rename_i h0
      rw [if_neg h0] at h
      exact h
theorem begins_take (ks : List Ky) (m : Nat) : beginsB ks (ks.take m) = true := by
  unfold beginsB
  have h : (ks.take m).length ≤ ks.length := by rw [List.length_take]; omega
  have h2 : ks.take (ks.take m).length = ks.take m := by rw [List.length_take, List.take_eq_take_iff]; omega
  rw [h2]
  simp only [decide_true, Bool.and_true]
  exact decide_eq_true h
theorem begins_self (ks : List Ky) : beginsB ks ks = true := by
  have := begins_take ks ks.length
  rwa [List.take_length] at this
theorem begins_nil (ks : List Ky) : beginsB ks [] = true := by
  have := begins_take ks 0
  rwa [List.take_zero] at this
theorem asc_of_map (ks : List Ky) (rs : List Rw) (X : List (List V)) (h : rs.map (·.l) = sortL ks X) : Asc (rcmp ks) rs := by
  have h1 : Asc (fun a b => cmpR a b ks) (rs.map (·.l)) := by
    rw [h]
    exact sortB_asc (fun a b => cmpR a b ks) (fun a b => cmpR_neg a b ks) (fun a b d h1 h2 => by
      have := cmpR_tri a b d ks
      unfold Tri at this
      omega) X
  exact List.pairwise_map.1 h1
set_option maxRecDepth 100000 in
set_option maxHeartbeats 8000000 in
theorem orderMore_any (a1 : Option Addr) (n1 c1 : Nat) (r1 : List Rw) (ak : Option Addr) (p ck : Nat) (ks : List Ky) (nu : Nat) (w : World) (hnu : nu < 256)
    (h1 : Tab w a1 r1) (l1 : r1.length = n1) (m1 : n1 ≤ c1) (cm1 : c1 ≤ maxLen)
    (hk : Cs w ak (kcells ks)) (hp : ks.length = p) (hlp : p ≤ ck) (hcm : ck ≤ maxLen) :
    Calls Try.prog 5 #[.slice a1 n1 c1, .slice ak p ck, .int .u8 (nu : Int)] w (fun e w' => e = .returned (.bool true) ∧ Below w.heap.size w w') := by
  have HF1 := Lib.hid (fun W (h : Tab W a1 r1) => few_any15 a1 n1 c1 r1 W h l1 m1 cm1)
  have HSK := Lib.hid (fun w => some_any15 ak p ck w hlp hcm)
  obtain ⟨t1, f1, f2, f3⟩ := few_take_ok h1
  have hfl1 : fewR 0 r1 ≤ c1 := by have := fewR_le r1 0; omega
  generalize r1.take (fewR 0 r1) = x at t1 f1 f3
  generalize fewR 0 r1 = i at HF1 f1 f2 hfl1
  have hkx : (ks.take (min p 10)).length = min p 10 := by simp; omega
  have kx := kcut hk (min p 10)
  have hkc : min p 10 ≤ ck := by omega
  have hk10 : min p 10 ≤ 10 := by omega
  generalize ks.take (min p 10) = kk at hkx kx
  generalize min p 10 = f at hkx hkc HSK hk10
  obtain ⟨m, hm⟩ : ∃ m, nu % (f + 1) = m := ⟨_, rfl⟩
  have hmf : m ≤ f := by have := Nat.mod_lt nu (show 0 < f + 1 by omega); omega
  have HM : Hid ((nu : Int) % ((f : Int) + 1) = (m : Int)) := Lib.hid (by
    rw [show (f : Int) + 1 = ((f + 1 : Nat) : Int) by omega, ← hm]
    exact (Int.natCast_emod _ _).symm)
  have bx := kcut kx m
  have hbx : (kk.take m).length = m := by rw [List.length_take]; omega
  have HSU := Lib.hid (fun (rs : List Rw) (X : List (List V)) (h : rs.map (·.l) = sortL kk X) => upB_asc (rcmp (kk.take m)) rs (List.Pairwise.imp (fun {a b} h => cmpR_take_le a.l b.l kk m h) (asc_of_map kk rs X h)))
  have HB := Lib.hid (fun W kx bx => begins_any ak f ck kk ak m ck (kk.take m) W kx bx hkx hbx hkc (by omega) hcm hcm)
  have HBK := Lib.hid (fun W kx => begins_any ak f ck kk ak f ck kk W kx kx hkx hkx hkc hkc hcm hcm)
  have HBN := Lib.hid (fun W kx => begins_any ak f ck kk none 0 0 [] W kx (Cs.nil _ _) hkx rfl hkc (Nat.le_refl _) hcm (by decide))
  rw [begins_take] at HB
  rw [begins_self] at HBK
  rw [begins_nil] at HBN
  generalize kk.take m = bb at HB hbx bx HSU
  have HS1 := Lib.hid (fun W t1 kx => sort_any a1 i c1 x ak f ck kk W t1 f1 hfl1 cm1 (by omega) f3 kx hkx hkc hcm)
  have HSO := Lib.hid (fun (g : Nat) (rs : List Rw) W t bx hl => sorted_any (some ⟨g, 0, none⟩) i i rs ak m ck bb W t hl (Nat.le_refl _) (by unfold maxLen; omega) bx hbx (by omega) hcm)
  have HXL : Hid (x.length = i) := Lib.hid f1
  clear l1 hk hp f1 f3 hkx hbx hm
  go_enter Try.func5, Try.ntmps5
  have b0 : Below w.heap.size w w := Below.refl _ _
  go_wp2_with (first | (at_make; refine Stop.un ?_) | (at_builtin; refine Stop.un ?_))
  refine (shown_any15 _).mono ?_
  rintro e v1 ⟨rfl, bt⟩
  replace b0 := Below.next b0 bt
  replace h1 := Tab.mono h1 bt
  replace t1 := Tab.mono t1 bt
  replace kx := Cs.mono kx bt (Nat.le_refl _)
  replace bx := Cs.mono bx bt (Nat.le_refl _)
  clear bt
  go_wp2_with (first | (at_make; refine Stop.un ?_) | (at_builtin; refine Stop.un ?_))
  refine (HSK.out _).mono ?_
  rintro e v2 ⟨rfl, rfl⟩
  go_wp2_with (first | (at_make; refine Stop.un ?_) | (at_builtin; refine Stop.un ?_) | (with_reducible refine Stop.slice ?_))
  rw [HM.out]
  refine Stop.mk ?_
  go_wp2_with (first | (at_make; refine Stop.un ?_) | (at_builtin; refine Stop.un ?_))
  refine (HB.out _ kx bx).mono ?_
  rintro e v3 ⟨rfl, bt⟩
  replace b0 := Below.next b0 bt
  replace h1 := Tab.mono h1 bt
  replace t1 := Tab.mono t1 bt
  replace kx := Cs.mono kx bt (Nat.le_refl _)
  replace bx := Cs.mono bx bt (Nat.le_refl _)
  clear bt
  go_wp2_with (first | (at_make; refine Stop.un ?_) | (at_builtin; refine Stop.un ?_))
  refine (HF1.out _ h1).mono ?_
  rintro e v4 ⟨rfl, bt⟩
  replace b0 := Below.next b0 bt
  replace h1 := Tab.mono h1 bt
  replace t1 := Tab.mono t1 bt
  replace kx := Cs.mono kx bt (Nat.le_refl _)
  replace bx := Cs.mono bx bt (Nat.le_refl _)
  clear bt
  clear h1
  go_wp2_with (first | (at_make; refine Stop.un ?_) | (at_builtin; refine Stop.un ?_))
  refine (HS1.out _ t1 kx).mono ?_
  rintro e u1 ⟨g1, q1, rfl, o1, hr1⟩
  have bt := o1.below
  have y1 := o1.tab
  have HR := Lib.hid hr1
  have hl1 : q1.length = i := by have := congrArg List.length hr1; rw [List.length_map] at this; rw [this]; unfold sortL; rw [sortB_length, List.length_map]; exact HXL.out
  have HLL := Lib.hid hl1
  replace b0 := Below.next b0 bt
  replace t1 := Tab.mono t1 bt
  replace kx := Cs.mono kx bt (Nat.le_refl _)
  replace bx := Cs.mono bx bt (Nat.le_refl _)
  clear bt o1 hr1 hl1
  have hso := HSO.out g1 q1 _ y1 bx HLL.out
  rw [HSU.out q1 _ HR.out] at hso
  have HSS := Lib.hid hso
  clear hso y1
  go_wp2_with (first | (at_make; refine Stop.un ?_) | (at_builtin; refine Stop.un ?_))
  refine (HSS.out).mono ?_
  rintro e v5 ⟨rfl, bt⟩
  replace b0 := Below.next b0 bt
  replace t1 := Tab.mono t1 bt
  replace kx := Cs.mono kx bt (Nat.le_refl _)
  replace bx := Cs.mono bx bt (Nat.le_refl _)
  clear bt
  go_wp2_with (first | (at_make; refine Stop.un ?_) | (at_builtin; refine Stop.un ?_))
  refine (HBK.out _ kx).mono ?_
  rintro e v6 ⟨rfl, bt⟩
  replace b0 := Below.next b0 bt
  replace t1 := Tab.mono t1 bt
  replace kx := Cs.mono kx bt (Nat.le_refl _)
  replace bx := Cs.mono bx bt (Nat.le_refl _)
  clear bt
  go_wp2_with (first | (at_make; refine Stop.un ?_) | (at_builtin; refine Stop.un ?_))
  refine (HBN.out _ kx).mono ?_
  rintro e v7 ⟨rfl, bt⟩
  replace b0 := Below.next b0 bt
  replace t1 := Tab.mono t1 bt
  replace kx := Cs.mono kx bt (Nat.le_refl _)
  replace bx := Cs.mono bx bt (Nat.le_refl _)
  clear bt
  go_wp2_with (first | (at_make; refine Stop.un ?_) | (at_builtin; refine Stop.un ?_))
  go_ret
  exact ⟨by first | rfl | simp, b0⟩
end Go.Proofs.Ytoggjieagnlneaa
