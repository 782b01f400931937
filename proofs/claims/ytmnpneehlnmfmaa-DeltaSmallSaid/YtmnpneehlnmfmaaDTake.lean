/- What delta.Take and the reference's Take return. -/
import Derived.Test.YtmnpneehlnmfmaaDTakeP
import Derived.Test.YtmnpneehlnmfmaaInts
import Derived.Test.YtmnpneehlnmfmaaRRdr
set_option linter.unusedVariables false
namespace Go.Proofs.Ytmnpneehlnmfmaa
open Go.RowKit
/-- Ints of the call's own, and a kind. -/
def RetK (w : World) (o : Option (List Int)) : Ending → World → Prop := fun e w' =>
  ∃ (ao : Option Addr) (n cap : Nat), (o.getD []).length = n ∧ e = .returned (.tuple #[.slice ao n cap, .int .i64 (tkC o)]) ∧ OwnI w w' (.slice ao n cap) n (o.getD [])
theorem Own.past {w0 w w' : World} {e size n g : Nat} {v : Value} {xs : List Value} (h : Own w0 w e size v n xs) (hg : w.grownBy w' (some g)) (hge : w0.heap.size ≤ g) (hne : v.ownBlock ≠ some g) : Own w0 w' e size v n xs :=
  ⟨h.1.kept hg (.inr hne), h.2.one hg hge (Nat.le_refl _)⟩
theorem Rdr.row {e : TypeId} {B T : Nat} {w w' : World} {g : Nat} {l : List UInt8} {bad : Bool} {row : Option Nat} (h : Rdr e B T w g l bad) (hg : w.grownBy w' row) (h1 : ∀ k, row = some k → k < B ∨ T ≤ k) : Rdr e B T w' g l bad := by
  cases row with
  | none => exact h.other (g' := T) ⟨hg.os, hg.tape, hg.output, hg.size, fun k hk _ => hg.block k hk (by simp)⟩ (.inr (Nat.le_refl _))
  | some k => exact h.other hg (h1 k rfl)
theorem tkGo_step (k : Nat) (r : List UInt8) (bad : Bool) (last : Int) (out : List Int) (h : (!decide (wrap64 (last + zag (rdN r)) < last) == decide (zag (rdN r) < 0)) = false) :
    tkGo (k + 1) r bad last out = tkGo k (rdRest r) (bad || rdBad r) (wrap64 (last + zag (rdN r))) (out ++ [wrap64 (last + zag (rdN r))]) := by
  rw [tkGo, if_pos (by simpa using h)]
theorem tkGo_stop (k : Nat) (r : List UInt8) (bad : Bool) (last : Int) (out : List Int) (h : (!decide (wrap64 (last + zag (rdN r)) < last) == decide (zag (rdN r) < 0)) = true) :
    tkGo (k + 1) r bad last out = none := by
  rw [tkGo, if_neg (by simpa using h)]

set_option maxHeartbeats 2000000 in
theorem take_any (ao : Option Addr) (m cap : Nat) (bs : List UInt8) (w : World) (hc : Cs w ao (bcells bs)) (hm : bs.length = m) (hl : m ≤ 140737488355328) :
    Calls Try.prog 17 #[.slice ao m cap] w (RetK w (takeO bs)) := by
  have HM := Lib.hid hm; clear hm
  by_cases h4 : rdN bs ≤ 4096
  · have hT : takeO bs = tkGo (rdN bs) (rdRest bs) (rdBad bs) 0 [] := by unfold takeO; rw [if_pos h4]
    have HT := Lib.hid hT
    clear hT
    go_enter Try.func17, Try.ntmps17
    go_wp2_with (first | (at_make; refine Stop.un ?_) | (at_builtin; refine Stop.un ?_) | (with_reducible refine Stop.conv 28 9 ?_) | (with_reducible refine Stop.conv 9 28 ?_))
    refine (newo_any ao m cap bs _ hc HM.out hl).mono ?_
    rintro e w1 ⟨g, rfl, hg, hr, b1⟩
    clear hc
    go_wp2_with (first | (at_make; refine Stop.un ?_) | (at_builtin; refine Stop.un ?_) | (with_reducible refine Stop.conv 28 9 ?_) | (with_reducible refine Stop.conv 9 28 ?_))
    refine (rnumo_any _ _ _ g _ _ _ hr).mono ?_
    rintro e w2 ⟨rfl, hr2, hg2⟩
    have b2 := b1.one hg2 hg (Nat.le_refl _)
    have hT2 : w1.heap.size ≤ w2.heap.size := hg2.size
    rw [Bool.false_or] at hr2
    generalize rdN bs = N at h4 HT
    generalize w1.heap.size = T at hr2 hT2
    clear hr hg2 b1
    go_wp2_with (first | (at_make; refine Stop.un ?_) | (at_builtin; refine Stop.un ?_) | (with_reducible refine Stop.conv 28 9 ?_) | (with_reducible refine Stop.conv 9 28 ?_))
    go_loopw [6, 7, 18] (fun v x c wr => ∃ (j : Nat) (ab : Option Addr) (cb : Nat) (r : List UInt8) (bad : Bool) (last : Int) (out : List Int), j ≤ N ∧ InR last ∧ c = .int .u64 (j : Int) ∧ x = .int .i64 last ∧ v = .slice ab j cb ∧ OwnI w wr (.slice ab j cb) j out ∧ (∀ k, (Value.slice ab j cb).ownBlock = some k → T ≤ k) ∧ Rdr 55 w.heap.size T wr g r bad ∧ T ≤ wr.heap.size ∧ Hid (takeO bs = tkGo (N - j) r bad last out)) (fun _ _ c _ => N - (intOf c).toNat)
    case atStart => exact ⟨0, none, 0, _, _, 0, [], by omega, by unfold InR; omega, rfl, rfl, rfl, Own.nil _ _ b2, (fun k hk => by cases hk), hr2, hT2, HT⟩
    case round =>
      clear hr2 hT2 b2 HT
      obtain ⟨j, ab, cb, r, bad, last, out, hj, hl0, rfl, rfl, rfl, hO, hk, hr, hTw, HT⟩ := hrel
      by_cases hlt : j < N
      · obtain ⟨q, hq⟩ : ∃ q, N - j = q + 1 := ⟨N - j - 1, by omega⟩
        have hq' : N - (j + 1) = q := by omega
        have HQ := Lib.hid (And.intro hq hq')
        have HL := Lib.hid hl0
        have HK := Lib.hid hk
        clear hq hq' hk hl0
        go_wp2_with (first | (at_make; refine Stop.un ?_) | (at_builtin; refine Stop.un ?_) | (with_reducible refine Stop.conv 28 9 ?_) | (with_reducible refine Stop.conv 9 28 ?_))
        refine (rinto_any _ _ _ g _ _ _ hr).mono ?_
        rintro e w3 ⟨rfl, hr3, hg3⟩
        have hgT := hr.ge
        have hO3 := Own.past hO hg3 hgT.1 (fun e => by have := HK.out _ e; omega)
        have hT3 : T ≤ w3.heap.size := Nat.le_trans hTw hg3.size
        have hs := zag_in (rdN_lt r)
        have hstep := tkGo_step q r bad last out
        have hstop := tkGo_stop q r bad last out
        generalize zag (rdN r) = s at hs hstep hstop
        obtain ⟨hs0, hs1⟩ := hs
        obtain ⟨hl0, hl1⟩ := HL.out
        have HSt := Lib.hid hstep
        have HSp := Lib.hid hstop
        clear hO hr hg3 hTw hstep hstop
        have hw0 := wrap64_in (last + s)
        by_cases ht : (!decide (wrap64 (last + s) < last) == decide (s < 0)) = true
        · have hnone : takeO bs = none := by rw [HT.out, HQ.out.1, HSp.out ht]
          have HN := Lib.hid hnone
          have b3 := Own.below hO3
          clear hnone hO3 hr3
          go_wp2_with (first | (at_make; refine Stop.un ?_) | (at_builtin; refine Stop.un ?_) | (with_reducible refine Stop.conv 28 9 ?_) | (with_reducible refine Stop.conv 9 28 ?_))
          go_ret2
          rw [HN.out]
          exact ⟨none, 0, 0, rfl, rfl, Own.nil _ _ b3⟩
        · have ht' : (!decide (wrap64 (last + s) < last) == decide (s < 0)) = false := by simpa using ht
          have hsome := HT.out
          rw [HQ.out.1, HSt.out ht', ← HQ.out.2] at hsome
          have HT2 := Lib.hid hsome
          clear hsome ht
          go_wp2_with (first | (at_make; refine Stop.un ?_) | (at_builtin; refine Stop.un ?_) | (with_reducible refine Stop.conv 28 9 ?_) | (with_reducible refine Stop.conv 9 28 ?_))
          refine Stop.mk (app_i1 w _ _ rfl rfl hO3 rfl rfl (by omega) ?_)
          intro a4 c4 w4 hO4 hg4 hk4
          have hr4 := hr3.row hg4 (fun k e => .inr (HK.out k e))
          have hT4 : T ≤ w4.heap.size := Nat.le_trans hT3 hg4.size
          have HK4 : Hid (∀ k, (Value.slice a4 (j + 1) c4).ownBlock = some k → T ≤ k) := Lib.hid (fun k e => (hk4 k e).elim (fun e1 => HK.out k e1) (fun h => Nat.le_trans hT3 h))
          clear hO3 hr3 hT3 hg4 hk4
          go_wp2_with (first | (at_make; refine Stop.un ?_) | (at_builtin; refine Stop.un ?_) | (with_reducible refine Stop.conv 28 9 ?_) | (with_reducible refine Stop.conv 9 28 ?_))
          go_roundw
          case rel => exact ⟨j + 1, a4, c4, _, _, _, _, by omega, hw0, by go_num, rfl, rfl, hO4, HK4.out, hr4, hT4, HT2⟩
          case measure => simp [intOf]; omega
      · have hge : j = N := by omega
        subst hge
        have hT := HT.out
        rw [Nat.sub_self, tkGo] at hT
        have HT2 := Lib.hid hT
        have hO2 := OwnI.length hO
        have HOL := Lib.hid hO2
        clear hlt hj hT HT hO2 hk hTw
        go_wp2_with (first | (at_make; refine Stop.un ?_) | (at_builtin; refine Stop.un ?_) | (with_reducible refine Stop.conv 28 9 ?_) | (with_reducible refine Stop.conv 9 28 ?_))
        refine (rendo_any _ _ _ g _ _ _ hr).mono ?_
        rintro e w3 ⟨rfl, rfl⟩
        clear hr
        by_cases hE : endE r bad = 0
        · have h2 : takeO bs = some out := by rw [HT2.out, if_pos hE]
          have H2 := Lib.hid h2
          rw [hE]
          clear h2 hE
          go_wp2_with (first | (at_make; refine Stop.un ?_) | (at_builtin; refine Stop.un ?_) | (with_reducible refine Stop.conv 28 9 ?_) | (with_reducible refine Stop.conv 9 28 ?_))
          go_ret2
          rw [H2.out]
          exact ⟨_, _, _, HOL.out, rfl, hO⟩
        · have h2 : takeO bs = none := by rw [HT2.out, if_neg hE]
          have H2 := Lib.hid h2
          have h6 : endE r bad = 6 := by unfold endE at *; split <;> simp_all
          rw [h6]
          have b3 := Own.below hO
          clear h2 hE h6 hO
          go_wp2_with (first | (at_make; refine Stop.un ?_) | (at_builtin; refine Stop.un ?_) | (with_reducible refine Stop.conv 28 9 ?_) | (with_reducible refine Stop.conv 9 28 ?_))
          go_ret2
          rw [H2.out]
          exact ⟨none, 0, 0, rfl, rfl, Own.nil _ _ b3⟩
  · have hT : takeO bs = none := by unfold takeO; rw [if_neg h4]
    rw [hT]; clear hT
    go_enter Try.func17, Try.ntmps17
    go_wp2_with (first | (at_make; refine Stop.un ?_) | (at_builtin; refine Stop.un ?_) | (with_reducible refine Stop.conv 28 9 ?_) | (with_reducible refine Stop.conv 9 28 ?_))
    refine (newo_any ao m cap bs _ hc HM.out hl).mono ?_
    rintro e w1 ⟨g, rfl, hg, hr, b1⟩
    clear hc
    go_wp2_with (first | (at_make; refine Stop.un ?_) | (at_builtin; refine Stop.un ?_) | (with_reducible refine Stop.conv 28 9 ?_) | (with_reducible refine Stop.conv 9 28 ?_))
    refine (rnumo_any _ _ _ g _ _ _ hr).mono ?_
    rintro e w2 ⟨rfl, hr2, hg2⟩
    have b2 := b1.one hg2 hg (Nat.le_refl _)
    have hN := rdN_lt bs
    generalize rdN bs = N at h4 hN
    clear hr hg2 b1 hr2
    go_wp2_with (first | (at_make; refine Stop.un ?_) | (at_builtin; refine Stop.un ?_) | (with_reducible refine Stop.conv 28 9 ?_) | (with_reducible refine Stop.conv 9 28 ?_))
    go_ret2
    exact ⟨none, 0, 0, rfl, rfl, Own.nil _ _ b2⟩
end Go.Proofs.Ytmnpneehlnmfmaa
