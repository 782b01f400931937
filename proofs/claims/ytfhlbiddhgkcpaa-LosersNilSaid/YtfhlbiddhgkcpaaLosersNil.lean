/- LosersNil. -/
import Derived.Test.YtfhlbiddhgkcpaaLosH
set_option linter.unusedVariables false
set_option linter.unusedSimpArgs false
namespace Go.Proofs.Ytfhlbiddhgkcpaa
open Go.RowKit
set_option maxRecDepth 100000 in
set_option maxHeartbeats 8000000 in
theorem losersNil_any (a1 : Option Addr) (n1 c1 : Nat) (r1 : List V) (ak : Option Addr) (p ck : Nat) (ks : List Ky) (w : World)
    (h1 : RowOk w ⟨a1, n1, c1, r1⟩)
    (hk : Cs w ak (kcells ks)) (hp : ks.length = p) (hlp : p ≤ ck) (hcm : ck ≤ maxLen) :
    Calls Try.prog 5 #[.slice a1 n1 c1, .slice ak p ck] w (fun e w' => e = .returned (.bool true) ∧ Below w.heap.size w w') := by
  have HSK := Lib.hid (fun w => some_any16 ak p ck w hlp hcm)
  have HRW := Lib.hid (fun W h => row_any16 ⟨a1, n1, c1, r1⟩ W h)
  have hkx : (ks.take (min p 10)).length = min p 10 := by simp; omega
  have kx := kcut hk (min p 10)
  have hkc : min p 10 ≤ ck := by omega
  have hk10 : min p 10 ≤ 10 := by omega
  generalize ks.take (min p 10) = kk at hkx kx
  generalize min p 10 = f at hkx hkc HSK hk10
  have HNW := Lib.hid (fun W kx => new_any none 0 0 [] ak f ck kk W (Tab.nil _ _) rfl (Nat.le_refl _) (by decide) (by omega) (fun r h => by cases h) kx hkx hkc hcm (by omega))
  have HMG := Lib.hid (fun W kx => merge_any none 0 0 [] ak f ck kk W ⟨Cs.nil _ _, fun _ h => by cases h⟩ rfl (Nat.le_refl _) (by decide) (by omega) (fun r h => by cases h) (fun r h => by cases h) (by decide) kx hkx hkc hcm (by omega))
  clear hp hk hkx
  go_enter Try.func5, Try.ntmps5
  have b0 : Below w.heap.size w w := Below.refl _ _
  go_wp2_with (first | (at_make; refine Stop.un ?_) | (at_builtin; refine Stop.un ?_))
  refine (shown_any16 _).mono ?_
  rintro e v1 ⟨rfl, bt⟩
  replace b0 := Below.next b0 bt
  replace h1 := RowOk.mono h1 bt
  replace kx := Cs.mono kx bt (Nat.le_refl _)
  clear bt
  go_wp2_with (first | (at_make; refine Stop.un ?_) | (at_builtin; refine Stop.un ?_))
  refine (HRW.out _ h1).mono ?_
  rintro e v2 ⟨rfl, bt⟩
  replace b0 := Below.next b0 bt
  replace h1 := RowOk.mono h1 bt
  replace kx := Cs.mono kx bt (Nat.le_refl _)
  clear bt
  clear h1
  clear HRW
  generalize okR ⟨a1, n1, c1, r1⟩ = B
  cases B with
  | false =>
    go_wp2_with (first | (at_make; refine Stop.un ?_) | (at_builtin; refine Stop.un ?_))
    go_ret
    exact ⟨by first | rfl | simp, b0⟩
  | true =>
    go_wp2_with (first | (at_make; refine Stop.un ?_) | (at_builtin; refine Stop.un ?_))
    refine (next_nil _).mono ?_
    rintro e v3 ⟨rfl, bt⟩
    replace b0 := Below.next b0 bt
    replace kx := Cs.mono kx bt (Nat.le_refl _)
    clear bt
    unfold nextV
    go_wp2_with (first | (at_make; refine Stop.un ?_) | (at_builtin; refine Stop.un ?_))
    refine (HSK.out _).mono ?_
    rintro e v4 ⟨rfl, rfl⟩
    go_wp2_with (first | (at_make; refine Stop.un ?_) | (at_builtin; refine Stop.un ?_))
    refine (HNW.out _ kx).mono ?_
    rintro e wT ⟨tr, H, q, h, S, v, rfl, G, hH, hq, -, bt, -, -⟩
    have hq0 : q = 0 := by omega
    subst hq0
    have HH : Hid (nxt kk (hds H) = none) := Lib.hid (by rw [hH]; rfl)
    replace b0 := Below.next b0 bt
    replace kx := Cs.mono kx bt (Nat.le_refl _)
    clear bt hH hq HNW
    have hnx := next_any _ _ _ _ _ _ _ _ _ G
    rw [HH.out] at hnx
    have HNX := Lib.hid hnx
    clear hnx
    go_wp2_with (first | (at_make; refine Stop.un ?_) | (at_builtin; refine Stop.un ?_))
    refine (HNX.out).mono ?_
    rintro e v5 ⟨rfl, bt⟩
    replace b0 := Below.next b0 bt
    replace kx := Cs.mono kx bt (Nat.le_refl _)
    replace G := Gd.below G bt
    clear bt
    clear HNX
    unfold nextV
    go_wp2_with (first | (at_make; refine Stop.un ?_) | (at_builtin; refine Stop.un ?_))
    refine (HSK.out _).mono ?_
    rintro e v6 ⟨rfl, rfl⟩
    go_wp2_with (first | (at_make; refine Stop.un ?_) | (at_builtin; refine Stop.un ?_))
    refine (HMG.out _ kx).mono ?_
    rintro e wM ⟨ab, NN, cb, rm, rfl, OM, -, hM⟩
    have bt := Below.mono (Own.below OM) (Nat.le_refl _)
    have hN : rm.length = NN := OwnRs.length OM
    have h9 : rm.map (·.l) = [] := hM.trans rfl
    obtain rfl : NN = 0 := by rw [← hN]; simpa using congrArg List.length h9
    clear h9
    clear OM hM hN HMG
    replace b0 := Below.next b0 bt
    replace kx := Cs.mono kx bt (Nat.le_refl _)
    replace G := Gd.below G bt
    clear bt
    go_wp2_with (first | (at_make; refine Stop.un ?_) | (at_builtin; refine Stop.un ?_))
    refine (put_nil ⟨a1, n1, c1, r1⟩ _).mono ?_
    rintro e v7 ⟨rfl, bt⟩
    replace b0 := Below.next b0 bt
    replace kx := Cs.mono kx bt (Nat.le_refl _)
    replace G := Gd.below G bt
    clear bt
    go_wp2_with (first | (at_make; refine Stop.un ?_) | (at_builtin; refine Stop.un ?_))
    refine (asked_nil _).mono ?_
    rintro e v8 ⟨rfl, bt⟩
    replace b0 := Below.next b0 bt
    replace kx := Cs.mono kx bt (Nat.le_refl _)
    replace G := Gd.below G bt
    clear bt
    have hpt := put_none _ _ _ _ _ _ _ _ _ G ⟨a1, n1, c1, r1⟩ HH.out
    have HPT := Lib.hid hpt
    clear hpt
    go_wp2_with (first | (at_make; refine Stop.un ?_) | (at_builtin; refine Stop.un ?_))
    refine (HPT.out).mono ?_
    rintro e v9 ⟨rfl, bt⟩
    replace b0 := Below.next b0 bt
    replace kx := Cs.mono kx bt (Nat.le_refl _)
    replace G := Gd.below G bt
    clear bt
    clear HPT
    have hak := asked_any _ G.T
    have HAK := Lib.hid hak
    clear hak
    go_wp2_with (first | (at_make; refine Stop.un ?_) | (at_builtin; refine Stop.un ?_))
    refine (HAK.out).mono ?_
    rintro e v10 ⟨rfl, bt⟩
    replace b0 := Below.next b0 bt
    replace kx := Cs.mono kx bt (Nat.le_refl _)
    replace G := Gd.below G bt
    clear bt
    clear HAK
    go_wp2_with (first | (at_make; refine Stop.un ?_) | (at_builtin; refine Stop.un ?_))
    go_ret
    exact ⟨by first | rfl | simp, b0⟩
end Go.Proofs.Ytfhlbiddhgkcpaa
