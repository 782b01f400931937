/- DeltaBack. -/
import Derived.Test.YtmnpneehlnmfmaaDLay
import Derived.Test.YtmnpneehlnmfmaaDTake
import Derived.Test.YtmnpneehlnmfmaaIntsEq
set_option linter.unusedVariables false
namespace Go.Proofs.Ytmnpneehlnmfmaa
open Go.RowKit
/-- What Put tells of few numbers, and what Take makes of it. -/
theorem back_cases (l : List Int) (h : l.length ≤ 4096) (hr : ∀ n ∈ l, InR n) : (putC l = 0 ∧ takeO (putR l) = some l) ∨ (putC l = 8 ∧ putR l = []) := by
  unfold putC putR putK
  rw [if_pos h, if_pos h]
  cases ho : putO l with
  | none => exact .inr ⟨rfl, rfl⟩
  | some x => exact .inl ⟨rfl, by simpa using takeO_put h hr ho⟩
/-- What Take makes of bytes, and what Put tells of it. -/
theorem forth_cases (bs : List UInt8) : (∃ l, takeO bs = some l ∧ l.length ≤ 4096 ∧ (∀ n ∈ l, InR n) ∧ putC l = 0 ∧ putR l = bs) ∨ takeO bs = none := by
  cases h : takeO bs with
  | none => exact .inr rfl
  | some l =>
    obtain ⟨h1, h2, h3, _⟩ := put_takeO h
    refine .inl ⟨l, rfl, h1, h2, ?_, ?_⟩
    · unfold putC putK; rw [if_pos h1, h3]; rfl
    · unfold putR; rw [if_pos h1, h3]; rfl
theorem putGo_len : ∀ (zs : List Int) (acc : List UInt8) (last : Int) (x : List UInt8), putGo acc last zs = some x → x.length ≤ acc.length + 9 * zs.length
  | [], acc, last, x, h => by
    simp only [putGo, Option.some.injEq] at h
    rw [← h]; omega
  | n :: zs, acc, last, x, h => by
    cases hs : stp last n with
    | false => rw [putGo_stop _ _ _ _ hs] at h; cases h
    | true =>
      rw [putGo_step _ _ _ _ hs] at h
      have := putGo_len zs _ _ _ h
      rw [List.length_append] at this
      have := (intB_length (n - last)).2
      rw [List.length_cons]; omega
theorem putR_len (zs : List Int) : (putR zs).length ≤ 36873 := by
  unfold putR
  split
  · cases h : putO zs with
    | none => simp
    | some x =>
      have := putGo_len zs _ _ _ h
      have := (numB_length zs.length).2
      simp only [Option.getD_some]; omega
  · simp
theorem take_nil : putC [] = 0 ∧ takeO [] = none := ⟨by decide +kernel, by decide +kernel⟩

set_option maxRecDepth 100000 in
set_option maxHeartbeats 4000000 in
theorem deltaBack_any (ao : Option Addr) (m0 cap : Nat) (zs0 : List Int) (bo : Option Addr) (k0 capb : Nat) (bs0 : List UInt8) (w : World)
    (hc0 : Cs w ao (zs0.map (Value.int .i64))) (hm0 : zs0.length = m0) (hl0 : m0 ≤ cap) (hcm : cap ≤ maxLen) (hwf0 : ∀ n ∈ zs0, -9223372036854775808 ≤ n ∧ n ≤ 9223372036854775807)
    (hd0 : Cs w bo (bcells bs0)) (hk0 : bs0.length = k0) (hlb0 : k0 ≤ capb) (hcmb : capb ≤ maxLen) :
    Calls Try.prog 7 #[.slice ao m0 cap, .slice bo k0 capb] w (fun e w' => e = .returned (.bool true) ∧ Below w.heap.size w w') := by
  have hc := hc0.take (min m0 2000)
  rw [← List.map_take] at hc
  have hm : (zs0.take (min m0 2000)).length = min m0 2000 := by rw [List.length_take, hm0]; omega
  have hwf : ∀ n ∈ zs0.take (min m0 2000), InR n := fun n hn => hwf0 n (List.mem_of_mem_take hn)
  have hl : min m0 2000 ≤ cap := by omega
  have hm1 : (min (m0 : Int) 2000).toNat = min m0 2000 := by omega
  have h2 : min m0 2000 ≤ 2000 := by omega
  generalize zs0.take (min m0 2000) = zs at hc hm hwf
  generalize min m0 2000 = m at hm hl hm1 h2
  clear hc0 hm0 hwf0
  have hd := hd0.take (min k0 3000)
  rw [show (bcells bs0).take (min k0 3000) = bcells (bs0.take (min k0 3000)) by simp [bcells, List.map_take]] at hd
  have hk : (bs0.take (min k0 3000)).length = min k0 3000 := by rw [List.length_take, hk0]; omega
  have hlb : min k0 3000 ≤ capb := by omega
  have hk1 : (min (k0 : Int) 3000).toNat = min k0 3000 := by omega
  have h3 : min k0 3000 ≤ 3000 := by omega
  generalize bs0.take (min k0 3000) = bs at hd hk
  generalize min k0 3000 = k at hd hk hlb hk1 h3
  clear hd0 hk0
  have hcap : cap ≤ 9223372036854775807 := hcm
  have hcapb : capb ≤ 9223372036854775807 := hcmb
  have hback := back_cases zs (by omega) hwf
  have hforth := forth_cases bs
  have HWF := Lib.hid hwf
  have HM := Lib.hid hm
  have HM1 := Lib.hid hm1
  have HK := Lib.hid hk
  have HK1 := Lib.hid hk1
  have HC := Lib.hid hcm
  clear hm hm1 hk hk1 hwf hcm hcmb
  go_enter Try.func7, Try.ntmps7
  go_wp2_with (first | (at_make; refine Stop.un ?_) | (at_builtin; refine Stop.un ?_) | (with_reducible refine Stop.conv 28 9 ?_) | (with_reducible refine Stop.conv 9 28 ?_))
  refine (shown_any _).mono ?_
  rintro e w1 ⟨rfl, b1⟩
  go_wp2_with (first | (at_make; refine Stop.un ?_) | (at_builtin; refine Stop.un ?_) | (with_reducible refine Stop.conv 28 9 ?_) | (with_reducible refine Stop.conv 9 28 ?_))
  rw [HM1.out]
  refine (put_any ao m cap zs _ (hc.mono b1 (Nat.le_refl _)) HM.out hl HC.out HWF.out).mono ?_
  rintro e w2 ⟨a1, n1, c1, h1, rfl, o1⟩
  have H1 := Lib.hid h1
  clear h1
  have b2 := b1.next (Own.below o1)
  have hn1 : n1 ≤ 36873 := by rw [← H1.out]; exact putR_len zs
  have hcR := Own.cs o1
  clear b1 o1
  go_wp2_with (first | (at_make; refine Stop.un ?_) | (at_builtin; refine Stop.un ?_) | (with_reducible refine Stop.conv 28 9 ?_) | (with_reducible refine Stop.conv 9 28 ?_))
  refine (take_any a1 n1 c1 _ _ hcR H1.out (by omega)).mono ?_
  rintro e w3 ⟨a2, n2, c2, h2', rfl, o2⟩
  have H2 := Lib.hid h2'
  clear h2'
  have b3 := b2.next (Own.below o2)
  have hcZ := Own.cs o2
  have H2m := Lib.hid (owns_max o2.1)
  have H2l := Lib.hid (owns_le o2.1)
  clear b2 o2 hcR
  go_wp2_with (first | (at_make; refine Stop.un ?_) | (at_builtin; refine Stop.un ?_) | (with_reducible refine Stop.conv 28 9 ?_) | (with_reducible refine Stop.conv 9 28 ?_))
  rw [HK1.out]
  refine (take_any bo k capb bs _ (hd.mono b3 (Nat.le_refl _)) HK.out (by omega)).mono ?_
  rintro e w4 ⟨a3, n3, c3, h3', rfl, o3⟩
  have H3 := Lib.hid h3'
  clear h3'
  have b4 := b3.next (Own.below o3)
  have hcZ4 := hcZ.mono (Own.below o3) (Nat.le_refl _)
  have H3m := Lib.hid (owns_max o3.1)
  have H3l := Lib.hid (owns_le o3.1)
  have hcT := Own.cs o3
  clear b3 o3 hcZ
  go_wp2_with (first | (at_make; refine Stop.un ?_) | (at_builtin; refine Stop.un ?_) | (with_reducible refine Stop.conv 28 9 ?_) | (with_reducible refine Stop.conv 9 28 ?_))
  have hin : ∀ n ∈ (takeO bs).getD [], InR n := by
    rcases hforth with ⟨l, e, _, h, _⟩ | e
    · rw [e]; exact h
    · rw [e]; simp
  refine (put_any a3 n3 c3 _ _ hcT H3.out H3l.out H3m.out hin).mono ?_
  rintro e w5 ⟨a4, n4, c4, h4, rfl, o4⟩
  have H4 := Lib.hid h4
  clear h4 hin
  have b5 := b4.next (Own.below o4)
  have hcZ5 := hcZ4.mono (Own.below o4) (Nat.le_refl _)
  have hcR5 := Own.cs o4
  have hx5 := hc.mono b5 (Nat.le_refl _)
  have hd5 := hd.mono b5 (Nat.le_refl _)
  clear b4 o4 hcZ4 hcT
  rcases hforth with ⟨l, f1, f2, f3, f4, f5⟩ | f1
  · rw [f1] at H4 H3 hcR5 ⊢
    rw [show putC ((some l).getD []) = 0 from f4]
    rw [show tkC (some l) = 0 from rfl]
    rw [show putR ((some l).getD []) = bs from f5] at H4 hcR5
    clear f1 f2 f3 f4 f5
    rcases hback with ⟨g1, g2⟩ | ⟨g1, g2⟩
    · rw [g1]
      rw [g2] at H2 hcZ5 ⊢
      rw [show tkC (some zs) = 0 from rfl]
      have hnn : n2 = m := H2.out.symm.trans HM.out
      subst hnn
      clear g1 g2
      go_wp2_with (first | (at_make; refine Stop.un ?_) | (at_builtin; refine Stop.un ?_) | (with_reducible refine Stop.conv 28 9 ?_) | (with_reducible refine Stop.conv 9 28 ?_))
      refine (intsEq_any a2 ao n2 c2 cap zs _ hcZ5 hx5 H2.out (by omega) H2l.out hl).mono ?_
      rintro e w6 ⟨rfl, b6⟩
      have b7 := b5.next b6
      have hcR6 := hcR5.mono b6 (Nat.le_refl _)
      have hd6 := hd5.mono b6 (Nat.le_refl _)
      clear b5 b6 hcR5 hd5 hx5 hcZ5
      go_wp2_with (first | (at_make; refine Stop.un ?_) | (at_builtin; refine Stop.un ?_) | (with_reducible refine Stop.conv 28 9 ?_) | (with_reducible refine Stop.conv 9 28 ?_))
      refine Stop.mk (wpList_conv Try.underlying28 Try.underlying5 Try.underlying9 _ rfl rfl rfl H4.out hcR6 ?_)
      clear hcR6
      go_wp2_with (first | (at_make; refine Stop.un ?_) | (at_builtin; refine Stop.un ?_) | (with_reducible refine Stop.conv 28 9 ?_) | (with_reducible refine Stop.conv 9 28 ?_))
      refine Stop.mk (wpList_conv Try.underlying28 Try.underlying5 Try.underlying9 _ rfl rfl rfl HK.out hd6 ?_)
      clear hd6
      go_wp2_with (first | (at_make; refine Stop.un ?_) | (at_builtin; refine Stop.un ?_) | (with_reducible refine Stop.conv 28 9 ?_) | (with_reducible refine Stop.conv 9 28 ?_))
      go_ret
      exact ⟨rfl, b7⟩
    · rw [g1]
      rw [g2] at H1 H2 ⊢
      rw [take_nil.2] at H2 ⊢
      rw [show tkC none = 6 from rfl]
      have hn0 : n1 = 0 := H1.out.symm
      subst hn0
      clear g1 g2 hcZ5 hx5
      go_wp2_with (first | (at_make; refine Stop.un ?_) | (at_builtin; refine Stop.un ?_) | (with_reducible refine Stop.conv 28 9 ?_) | (with_reducible refine Stop.conv 9 28 ?_))
      refine Stop.mk (wpList_conv Try.underlying28 Try.underlying5 Try.underlying9 _ rfl rfl rfl H4.out hcR5 ?_)
      clear hcR5
      go_wp2_with (first | (at_make; refine Stop.un ?_) | (at_builtin; refine Stop.un ?_) | (with_reducible refine Stop.conv 28 9 ?_) | (with_reducible refine Stop.conv 9 28 ?_))
      refine Stop.mk (wpList_conv Try.underlying28 Try.underlying5 Try.underlying9 _ rfl rfl rfl HK.out hd5 ?_)
      clear hd5
      go_wp2_with (first | (at_make; refine Stop.un ?_) | (at_builtin; refine Stop.un ?_) | (with_reducible refine Stop.conv 28 9 ?_) | (with_reducible refine Stop.conv 9 28 ?_))
      go_ret
      exact ⟨rfl, b5⟩
  · rw [f1] at H3 ⊢
    rw [show putC ((none : Option (List Int)).getD []) = 0 from take_nil.1]
    rw [show tkC none = 6 from rfl]
    have hn0 : n3 = 0 := H3.out.symm
    subst hn0
    clear f1 hcR5 hd5
    rcases hback with ⟨g1, g2⟩ | ⟨g1, g2⟩
    · rw [g1]
      rw [g2] at H2 hcZ5 ⊢
      rw [show tkC (some zs) = 0 from rfl]
      have hnn : n2 = m := H2.out.symm.trans HM.out
      subst hnn
      clear g1 g2
      go_wp2_with (first | (at_make; refine Stop.un ?_) | (at_builtin; refine Stop.un ?_) | (with_reducible refine Stop.conv 28 9 ?_) | (with_reducible refine Stop.conv 9 28 ?_))
      refine (intsEq_any a2 ao n2 c2 cap zs _ hcZ5 hx5 H2.out (by omega) H2l.out hl).mono ?_
      rintro e w6 ⟨rfl, b6⟩
      have b7 := b5.next b6
      clear b5 b6 hx5 hcZ5
      go_wp2_with (first | (at_make; refine Stop.un ?_) | (at_builtin; refine Stop.un ?_) | (with_reducible refine Stop.conv 28 9 ?_) | (with_reducible refine Stop.conv 9 28 ?_))
      go_ret
      exact ⟨rfl, b7⟩
    · rw [g1]
      rw [g2] at H1 H2 ⊢
      rw [take_nil.2] at H2 ⊢
      rw [show tkC none = 6 from rfl]
      have hn0 : n1 = 0 := H1.out.symm
      subst hn0
      clear g1 g2 hcZ5 hx5
      go_wp2_with (first | (at_make; refine Stop.un ?_) | (at_builtin; refine Stop.un ?_) | (with_reducible refine Stop.conv 28 9 ?_) | (with_reducible refine Stop.conv 9 28 ?_))
      go_ret
      exact ⟨rfl, b5⟩
end Go.Proofs.Ytmnpneehlnmfmaa
