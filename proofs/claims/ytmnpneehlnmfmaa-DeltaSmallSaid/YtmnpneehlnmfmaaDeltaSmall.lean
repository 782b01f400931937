/- DeltaSmall. -/
import Derived.Test.YtmnpneehlnmfmaaDLay
import Derived.Test.YtmnpneehlnmfmaaDTake
import Derived.Test.YtmnpneehlnmfmaaIntsEq
set_option linter.unusedVariables false
namespace Go.Proofs.Ytmnpneehlnmfmaa
open Go.RowKit
theorem putGo_snoc : ∀ (l : List Int) (acc : List UInt8) (last n : Int) (x : List UInt8), putGo acc last l = some x → stp (l.getLastD last) n = true → putGo acc last (l ++ [n]) = some (x ++ intB (n - l.getLastD last))
  | [], acc, last, n, x, h, hs => by
    simp only [putGo, Option.some.injEq] at h
    subst h
    simp only [List.nil_append, List.getLastD_nil] at hs ⊢
    rw [putGo_step _ _ _ _ hs, putGo]
  | a :: l, acc, last, n, x, h, hs => by
    cases ha : stp last a with
    | false => rw [putGo_stop _ _ _ _ ha] at h; cases h
    | true =>
      rw [putGo_step _ _ _ _ ha] at h
      rw [List.getLastD_cons] at hs ⊢
      rw [List.cons_append, putGo_step _ _ _ _ ha]
      exact putGo_snoc l _ _ _ _ h hs
/-- Numbers whose steps are small. -/
def SmallL (l : List Int) (at_ : Int) : Prop := (∀ n ∈ l, InR n) ∧ l.getLastD 0 = at_ ∧ ∃ y, putGo [] 0 l = some y ∧ y.length = l.length
theorem SmallL.nil : SmallL [] 0 := ⟨by simp, rfl, [], rfl, rfl⟩
theorem SmallL.snoc {l : List Int} {a s : Int} (h : SmallL l a) (h0 : -124 ≤ s) (h1 : s ≤ 123) (hr : InR (a + s)) : SmallL (l ++ [a + s]) (a + s) := by
  obtain ⟨h2, h3, y, h4, h5⟩ := h
  refine ⟨?_, by simp, y ++ intB (a + s - l.getLastD 0), ?_, ?_⟩
  · intro n hn
    rcases List.mem_append.1 hn with hn | hn
    · exact h2 n hn
    · rw [List.mem_singleton.1 hn]; exact hr
  · exact putGo_snoc l _ _ _ _ h4 (by rw [h3]; exact decide_eq_true (by omega))
  · rw [h3, show a + s - a = s by omega, List.length_append, List.length_append, h5]
    congr 1
    have : Lib.zigzag s < 248 := by unfold Lib.zigzag; split <;> omega
    rw [intB, numB, if_pos this]; rfl
theorem SmallL.put {l : List Int} {a : Int} (h : SmallL l a) (hl : l.length ≤ 200) : putC l = 0 ∧ (putR l).length = l.length + 1 ∧ takeO (putR l) = some l := by
  obtain ⟨h2, h3, y, h4, h5⟩ := h
  obtain ⟨y', e1, e2⟩ := putGo_acc l _ _ _ h4
  simp only [List.nil_append] at e1
  subst e1
  have hp : putO l = some (numB l.length ++ y) := e2 _
  have hR : putR l = numB l.length ++ y := by unfold putR; rw [if_pos (by omega), hp]; rfl
  refine ⟨by unfold putC putK; rw [if_pos (by omega), hp]; rfl, ?_, ?_⟩
  · rw [hR, List.length_append, h5, numB, if_pos (by omega)]; simp; omega
  · rw [hR]; exact takeO_put (by omega) h2 hp

set_option maxRecDepth 100000 in
set_option maxHeartbeats 4000000 in
theorem deltaSmall_any (ao : Option Addr) (m cap : Nat) (bs : List UInt8) (w : World) (hc : Cs w ao (bcells bs)) (hm : bs.length = m) (hl : m ≤ cap) (hcm : cap ≤ maxLen) :
    Calls Try.prog 8 #[.slice ao m cap] w (fun e w' => e = .returned (.bool true) ∧ Below w.heap.size w w') := by
  have hcap : cap ≤ 9223372036854775807 := hcm
  have HM := Lib.hid hm
  clear hm hcm
  go_enter Try.func8, Try.ntmps8
  go_wp2_with (first | (at_make; refine Stop.un ?_) | (at_builtin; refine Stop.un ?_) | (with_reducible refine Stop.conv 28 9 ?_) | (with_reducible refine Stop.conv 9 28 ?_))
  refine (shown_any _).mono ?_
  rintro e w1 ⟨rfl, b1⟩
  go_wp2_with (first | (at_make; refine Stop.un ?_) | (at_builtin; refine Stop.un ?_) | (with_reducible refine Stop.conv 28 9 ?_) | (with_reducible refine Stop.conv 9 28 ?_))
  go_loopw [4, 5, 15] (fun v x c wr => ∃ (j : Nat) (ab : Option Addr) (cb : Nat) (at_ : Int) (out : List Int), j ≤ m ∧ j ≤ 200 ∧ -124 * j ≤ at_ ∧ at_ ≤ 123 * j ∧ c = .int .i64 (j : Int) ∧ x = .int .i64 at_ ∧ v = .slice ab j cb ∧ OwnI w wr (.slice ab j cb) j out ∧ Hid (SmallL out at_)) (fun _ _ c _ => m - (intOf c).toNat)
  case atStart => exact ⟨0, none, 0, 0, [], by omega, by omega, by omega, by omega, rfl, rfl, rfl, Own.nil _ _ b1, Lib.hid SmallL.nil⟩
  case round =>
    clear b1
    obtain ⟨j, ab, cb, at_, out, hj, hj2, hl0, hl1, rfl, rfl, rfl, hO, HS⟩ := hrel
    by_cases hgo : j < m ∧ j < 200
    · obtain ⟨hlt, h200⟩ := hgo
      obtain ⟨b, o, rfl⟩ := hc.addr (by rw [bcells_length]; have := HM.out; omega)
      have hjb : j < bs.length := by have := HM.out; omega
      have hcell := (hc.mono (Own.below hO) (Nat.le_refl _)).at (bcells_get bs j hjb)
      generalize hB : bs[j].toNat = B at hcell
      have hB2 : B < 256 := by rw [← hB]; exact bs[j].toNat_lt
      clear hB hjb
      go_wp2_with (first | (at_make; refine Stop.un ?_) | (at_builtin; refine Stop.un ?_) | (with_reducible refine Stop.conv 28 9 ?_) | (with_reducible refine Stop.conv 9 28 ?_))
      refine Stop.mk (app_i1 w _ _ rfl rfl hO rfl rfl (by omega) ?_)
      intro a4 c4 w7 hO4 hg4 hk4
      have HS2 := Lib.hid (HS.out.snoc (s := (B : Int) % 248 - 124) (by omega) (by omega) (by unfold InR; omega))
      clear hO hg4 hk4
      go_wp2_with (first | (at_make; refine Stop.un ?_) | (at_builtin; refine Stop.un ?_) | (with_reducible refine Stop.conv 28 9 ?_) | (with_reducible refine Stop.conv 9 28 ?_))
      go_roundw
      case rel => exact ⟨j + 1, a4, c4, _, _, by omega, by omega, by omega, by omega, by go_num, rfl, rfl, hO4, HS2⟩
      case measure => simp [intOf] <;> omega
    · have hx : (j < m ∧ 200 ≤ j) ∨ ¬ j < m := by omega
      have hO2 := OwnI.length hO
      obtain ⟨p1, p2, p3⟩ := HS.out.put (by omega)
      have H3m := Lib.hid (owns_max hO.1)
      have H3l := Lib.hid (owns_le hO.1)
      have HP := Lib.hid (And.intro p1 (And.intro p2 p3))
      have HI := Lib.hid HS.out.1
      have HO := Lib.hid hO2
      have hjc : j ≤ 200 := hj2
      clear hgo p1 p2 p3 hl0 hl1 HS hO2
      rcases hx with ⟨hlt, h200⟩ | hlt
      · obtain ⟨b, o, rfl⟩ := hc.addr (by rw [bcells_length]; have := HM.out; omega)
        have hjb : j < bs.length := by have := HM.out; omega
        have hcell := (hc.mono (Own.below hO) (Nat.le_refl _)).at (bcells_get bs j hjb)
        generalize hB : bs[j].toNat = B at hcell
        have hB2 : B < 256 := by rw [← hB]; exact bs[j].toNat_lt
        clear hB hjb
        have hj3 : j = 200 := by omega
        have hdec : decide (200 ≤ (j : Int)) = true := by simp; omega
        clear hj3
        go_wp2_with (first | (at_make; refine Stop.un ?_) | (at_builtin; refine Stop.un ?_) | (with_reducible refine Stop.conv 28 9 ?_) | (with_reducible refine Stop.conv 9 28 ?_))
        refine (put_any ab j cb out _ (Own.cs hO) HO.out H3l.out H3m.out HI.out).mono ?_
        rw [HP.out.1]
        rintro e w3 ⟨a5, n5, c5, h5, rfl, o5⟩
        have hn5 : n5 = j + 1 := by rw [← h5, HP.out.2.1, HO.out]
        subst hn5
        have H5 := Lib.hid h5
        have b5 := (Own.below hO).next (Own.below o5)
        have hci := (Own.cs hO).mono (Own.below o5) (Nat.le_refl _)
        have hc5 := Own.cs o5
        clear h5 hO o5
        go_wp2_with (first | (at_make; refine Stop.un ?_) | (at_builtin; refine Stop.un ?_) | (with_reducible refine Stop.conv 28 9 ?_) | (with_reducible refine Stop.conv 9 28 ?_))
        refine (take_any a5 (j + 1) c5 _ _ hc5 H5.out (by omega)).mono ?_
        rw [HP.out.2.2]
        rintro e w4 ⟨a6, n6, c6, h6, rfl, o6⟩
        have hn6 : j = n6 := by rw [← h6]; exact HO.out.symm
        subst hn6
        have H6l := Lib.hid (owns_le o6.1)
        have b6 := b5.next (Own.below o6)
        have hci6 := hci.mono (Own.below o6) (Nat.le_refl _)
        have hc6 := Own.cs o6
        rw [show tkC (some out) = 0 from rfl]
        clear b5 hci h6 o6 hc5
        go_wp2_with (first | (at_make; refine Stop.un ?_) | (at_builtin; refine Stop.un ?_) | (with_reducible refine Stop.conv 28 9 ?_) | (with_reducible refine Stop.conv 9 28 ?_))
        refine (intsEq_any a6 ab j c6 cb out _ hc6 hci6 HO.out (by omega) H6l.out H3l.out).mono ?_
        rintro e w6 ⟨rfl, b7⟩
        have b8 := b6.next b7
        clear b6 b7 hci6 hc6
        go_wp2_with (first | (at_make; refine Stop.un ?_) | (at_builtin; refine Stop.un ?_) | (with_reducible refine Stop.conv 28 9 ?_) | (with_reducible refine Stop.conv 9 28 ?_))
        go_ret
        exact ⟨rfl, b8⟩
      · clear hj
        go_wp2_with (first | (at_make; refine Stop.un ?_) | (at_builtin; refine Stop.un ?_) | (with_reducible refine Stop.conv 28 9 ?_) | (with_reducible refine Stop.conv 9 28 ?_))
        refine (put_any ab j cb out _ (Own.cs hO) HO.out H3l.out H3m.out HI.out).mono ?_
        rw [HP.out.1]
        rintro e w3 ⟨a5, n5, c5, h5, rfl, o5⟩
        have hn5 : n5 = j + 1 := by rw [← h5, HP.out.2.1, HO.out]
        subst hn5
        have H5 := Lib.hid h5
        have b5 := (Own.below hO).next (Own.below o5)
        have hci := (Own.cs hO).mono (Own.below o5) (Nat.le_refl _)
        have hc5 := Own.cs o5
        clear h5 hO o5
        go_wp2_with (first | (at_make; refine Stop.un ?_) | (at_builtin; refine Stop.un ?_) | (with_reducible refine Stop.conv 28 9 ?_) | (with_reducible refine Stop.conv 9 28 ?_))
        refine (take_any a5 (j + 1) c5 _ _ hc5 H5.out (by omega)).mono ?_
        rw [HP.out.2.2]
        rintro e w4 ⟨a6, n6, c6, h6, rfl, o6⟩
        have hn6 : j = n6 := by rw [← h6]; exact HO.out.symm
        subst hn6
        have H6l := Lib.hid (owns_le o6.1)
        have b6 := b5.next (Own.below o6)
        have hci6 := hci.mono (Own.below o6) (Nat.le_refl _)
        have hc6 := Own.cs o6
        rw [show tkC (some out) = 0 from rfl]
        clear b5 hci h6 o6 hc5
        go_wp2_with (first | (at_make; refine Stop.un ?_) | (at_builtin; refine Stop.un ?_) | (with_reducible refine Stop.conv 28 9 ?_) | (with_reducible refine Stop.conv 9 28 ?_))
        refine (intsEq_any a6 ab j c6 cb out _ hc6 hci6 HO.out (by omega) H6l.out H3l.out).mono ?_
        rintro e w6 ⟨rfl, b7⟩
        have b8 := b6.next b7
        clear b6 b7 hci6 hc6
        go_wp2_with (first | (at_make; refine Stop.un ?_) | (at_builtin; refine Stop.un ?_) | (with_reducible refine Stop.conv 28 9 ?_) | (with_reducible refine Stop.conv 9 28 ?_))
        go_ret
        exact ⟨rfl, b8⟩
end Go.Proofs.Ytmnpneehlnmfmaa
