/- BloomPlays. -/
import Derived.Test.YtfakpmikflaofaaBRBits
import Derived.Laws.OwnMore
import Derived.Deep.AppendLies
set_option linter.unusedVariables false
set_option linter.unusedSimpArgs false
namespace Go.Proofs.Ytfakpmikflaofaa
open Go.RowKit
theorem vcut' {w : World} {ao : Option Addr} {l : List V} (h : Cs w ao (vcells l)) (f : Nat) : Cs w ao (vcells (l.take f)) := by
  rw [← vcells_take]; exact h.take _
theorem Own.stored {w0 w : World} {e size n g cap : Nat} {xs : List Value} (h : Own w0 w e size (.slice (some ⟨g, 0, none⟩) n cap) n xs) (j : Nat) (u : Value) : Own w0 (w.setCell ⟨g, j, none⟩ u) e size (.slice (some ⟨g, 0, none⟩) n cap) n (xs.set j u) :=
  ⟨(h.1.stored j u).1, h.2.setCell (p := ⟨g, j, none⟩) (h.ge g rfl) _⟩
theorem Own.at {w0 w : World} {e size n cap : Nat} {ao : Option Addr} {xs : List Value} (h : Own w0 w e size (.slice ao n cap) n xs) (hn : 0 < n) : ∃ g, ao = some ⟨g, 0, none⟩ ∧ w0.heap.size ≤ g ∧ g < w.heap.size := by
  obtain ⟨g, cap', hv, _, _⟩ := h.1.form hn
  simp only [Value.slice.injEq] at hv
  obtain ⟨e1, -, -⟩ := hv
  subst e1
  exact ⟨g, rfl, h.ge _ rfl, h.lt _ rfl⟩
theorem Flt.off {w : World} {g b M E : Nat} {bs : List UInt8} (h : Flt w g b M E bs) (p : Addr) (u : Value) (h1 : g ≠ p.block) (h2 : b ≠ p.block) : Flt (w.setCell p u) g b M E bs := ⟨h.head.off h1 u, h.row.off h2 u, h.ne⟩
set_option maxRecDepth 100000 in
set_option maxHeartbeats 2000000 in
theorem bloomPlays_bad (M E : Int) (ao bo : Option Addr) (m cap m2 cap2 : Nat) (w : World) (h : ¬ newOk M E) :
    Calls Try.prog 3 #[.int .i64 M, .int .i64 E, .slice ao m cap, .slice bo m2 cap2] w (fun e w' => e = .returned (.bool true) ∧ Below w.heap.size w w') := by
  have HN := Lib.hid (fun w => new_bad M E w h)
  have hcs : M < 1 ∨ (1 ≤ M ∧ 8192 < M) ∨ (1 ≤ M ∧ M ≤ 8192 ∧ E < 1) ∨ (1 ≤ M ∧ M ≤ 8192 ∧ 1 ≤ E ∧ 8 < E) := by unfold newOk at h; omega
  clear h
  go_enter Try.func3, Try.ntmps3
  go_wp2_with (first | (at_make; refine Stop.un ?_) | (at_builtin; refine Stop.un ?_) | (with_reducible refine Stop.conv 32 9 ?_) | (with_reducible refine Stop.conv 9 32 ?_))
  refine (shown_any _).mono ?_
  rintro e w1 ⟨rfl, b1⟩
  go_wp2_with (first | (at_make; refine Stop.un ?_) | (at_builtin; refine Stop.un ?_) | (with_reducible refine Stop.conv 32 9 ?_) | (with_reducible refine Stop.conv 9 32 ?_))
  refine (HN.out _).mono ?_
  rintro e w2 ⟨rfl, rfl⟩
  rcases hcs with h1 | ⟨h1, h2⟩ | ⟨h1, h2, h3⟩ | ⟨h1, h2, h3, h4⟩
  all_goals
    go_wp2_with (first | (at_make; refine Stop.un ?_) | (at_builtin; refine Stop.un ?_) | (with_reducible refine Stop.conv 32 9 ?_) | (with_reducible refine Stop.conv 9 32 ?_))
    go_ret
    exact ⟨rfl, b1⟩
set_option maxRecDepth 100000 in
set_option maxHeartbeats 16000000 in
theorem bloomPlays_ok (M E : Nat) (ao : Option Addr) (m cap : Nat) (l : List V) (bo : Option Addr) (m2 cap2 : Nat) (l2 : List V) (w : World) (hM1 : 1 ≤ M) (hM2 : M ≤ 8192) (hE1 : 1 ≤ E) (hE2 : E ≤ 8)
    (hc : Cs w ao (vcells l)) (hm : l.length = m) (hl : m ≤ cap) (hcm : cap ≤ maxLen) (hs : ∀ v ∈ l, v.s.size ≤ maxLen) (hok : ∀ v ∈ l, okV v)
    (hc2 : Cs w bo (vcells l2)) (hm2 : l2.length = m2) (hl2 : m2 ≤ cap2) (hcm2 : cap2 ≤ maxLen) (hs2 : ∀ v ∈ l2, v.s.size ≤ maxLen) (hok2 : ∀ v ∈ l2, okV v) :
    Calls Try.prog 3 #[.int .i64 (M : Int), .int .i64 (E : Int), .slice ao m cap, .slice bo m2 cap2] w (fun e w' => e = .returned (.bool true) ∧ Below w.heap.size w w') := by
  have HF := Lib.hid (fun w hc => few_any ao m cap l w hc hm hl hcm hs)
  have HF2 := Lib.hid (fun w hc => few_any bo m2 cap2 l2 w hc hm2 hl2 hcm2 hs2)
  have HN := Lib.hid (fun w => new_any M E w hM1 hM2 hE1 hE2)
  have HM := Lib.hid hm
  have HOK := Lib.hid hok
  have HM2 := Lib.hid hm2
  have HOK2 := Lib.hid hok2
  have hM0 : 0 < M := by omega
  have HSZ := Lib.hid (fun w => size_any (M : Int) w)
  have hsz : sizeN (M : Int) = (((M + 7) / 8 : Nat) : Int) := by unfold sizeN; rw [if_neg (by omega)]; omega
  rw [hsz] at HSZ
  have HB2 := Lib.hid (fun (f : Nat) (hf : f ≤ m) w hc => rbits_any ao f cap (l.take f) M E w hc (by rw [List.length_take]; omega) (by omega) hcm (fun v hv => hok v (List.mem_of_mem_take hv)) hE2 hM0 hM2)
  have hcm' := hcm
  have hcm2' := hcm2
  unfold maxLen at hcm' hcm2'
  clear hm hs hok hm2 hs2 hok2 hsz
  go_enter Try.func3, Try.ntmps3
  go_wp2_with (first | (at_make; refine Stop.un ?_) | (at_builtin; refine Stop.un ?_) | (with_reducible refine Stop.conv 32 9 ?_) | (with_reducible refine Stop.conv 9 32 ?_))
  refine (shown_any _).mono ?_
  rintro e w1 ⟨rfl, b1⟩
  go_wp2_with (first | (at_make; refine Stop.un ?_) | (at_builtin; refine Stop.un ?_) | (with_reducible refine Stop.conv 32 9 ?_) | (with_reducible refine Stop.conv 9 32 ?_))
  refine (HN.out _).mono ?_
  rintro e w2 ⟨g, b, rfl, hg, hb, hF, b2⟩
  have hF2 := hF
  have hb0 : w.heap.size ≤ b := by have := b1.size; omega
  replace b1 := b1.next b2
  clear b2 hF hg hb HN
  go_wp2_with (first | (at_make; refine Stop.un ?_) | (at_builtin; refine Stop.un ?_) | (with_reducible refine Stop.conv 32 9 ?_) | (with_reducible refine Stop.conv 9 32 ?_))
  refine (HF.out _ (hc.mono b1 (Nat.le_refl _))).mono ?_
  rintro e w4 ⟨f, hf, hf1, rfl, _, b4⟩
  replace hF2 := hF2.mono b4
  replace b1 := b1.next b4
  clear b4 HF
  have hfc : f ≤ cap := by omega
  have HBR := Lib.hid (HB2.out f hf)
  clear HB2
  go_wp2_with (first | (at_make; refine Stop.un ?_) | (at_builtin; refine Stop.un ?_) | (with_reducible refine Stop.conv 32 9 ?_) | (with_reducible refine Stop.conv 9 32 ?_))
  go_loopw [14, 59] (fun _ i wr => ∃ j : Nat, j ≤ f ∧ i = .int .i64 (j : Int) ∧ Below w.heap.size w wr ∧ Flt wr g b M E (allB (l.take j) M E)) (fun _ i _ => f - (intOf i).toNat)
  case atStart => exact ⟨0, by omega, rfl, b1, hF2⟩
  case round =>
    clear b1 hF2
    obtain ⟨j, hj, rfl, b1, hF2⟩ := hrel
    by_cases hlt : j < f
    · have hjl : j < l.length := by have := HM.out; omega
      obtain ⟨q, o, rfl⟩ := hc.addr (by rw [vcells_length]; omega)
      obtain ⟨x0, x1, x2⟩ := (hc.mono b1 (Nat.le_refl _)).vat hjl
      have hv := HOK.out l[j] (List.getElem_mem _)
      have hst : allB (l.take (j + 1)) M E = addB (allB (l.take j) M E) l[j] M E := by rw [List.take_succ_eq_append_getElem hjl, allB_snoc]
      have hbl := allB_length (l.take j) M E hM0
      have HAD := Lib.hid (fun w hF => add_any l[j] M E g b (allB (l.take j) M E) w hF hv hE2 hM0 hM2 hbl)
      rw [← hst] at HAD
      generalize l[j] = v at x0 x1 x2 HAD
      obtain ⟨k, n, s⟩ := v
      simp only [V.val] at HAD x0 x1 x2
      have bz := (Below.refl wr.heap.size wr).alloc (Nat.le_refl _) (.cells #[.int .u8 k, .int .i64 n, .string s] 30)
      clear hst hbl hjl hv
      go_wp2_with (first | (at_make; refine Stop.un ?_) | (at_builtin; refine Stop.un ?_) | (with_reducible refine Stop.conv 32 9 ?_) | (with_reducible refine Stop.conv 9 32 ?_))
      have hF3 := hF2.mono bz
      replace b1 := b1.next bz
      clear hF2 bz x0 x1 x2
      refine (HAD.out _ hF3).mono ?_
      rintro e w5 ⟨rfl, hF4, hX⟩
      replace b1 := b1.trans (hX.below_of b1.size hb0)
      clear hF3 hX HAD
      go_wp2_with (first | (at_make; refine Stop.un ?_) | (at_builtin; refine Stop.un ?_) | (with_reducible refine Stop.conv 32 9 ?_) | (with_reducible refine Stop.conv 9 32 ?_))
      go_roundw
      case rel => exact ⟨j + 1, by omega, by go_num, b1, hF4⟩
      case measure => simp [intOf]; omega
    · have hjf : j = f := by omega
      subst hjf
      clear hlt hj
      have hal := allB_length (l.take j) M E hM0
      have HMX := Lib.hid (fun v hv w hF => may_any v M E g b (allB (l.take j) M E) w hF hv hE2 hM0 hM2 hal)
      have HRX := Lib.hid (fun v hv (a : Option Addr) (n c : Nat) w hc hn hle hcm => rmay_any a n c (allB (l.take j) M E) v M E w hc hn hle hcm hal hv hE2 hM0 hM2)
      have HB1 := Lib.hid (fun w hF => bits_any M E g b (allB (l.take j) M E) w hF (by omega))
      generalize allB (l.take j) M E = bs at HMX HRX HB1 HBR hF2 hal
      have hcx := vcut' hc j
      have HAL := Lib.hid hal
      clear hal
      go_wp2_with (first | (at_make; refine Stop.un ?_) | (at_builtin; refine Stop.un ?_) | (with_reducible refine Stop.conv 32 9 ?_) | (with_reducible refine Stop.conv 9 32 ?_))
      refine (HB1.out _ hF2).mono ?_
      rintro e w5 ⟨a5, n5, c5, h5, rfl, o5⟩
      have hn5 : n5 = (M + 7) / 8 := by rw [← h5]; exact HAL.out
      have HN5 := Lib.hid hn5
      have hn51 : 1 ≤ n5 ∧ n5 ≤ 2000 := by omega
      have H5 := Lib.hid h5
      replace b1 := b1.next (Own.below o5)
      have hgw : g < wr.heap.size ∧ b < wr.heap.size := ⟨hF2.head.lt, hF2.row.lt⟩
      replace hF2 := hF2.mono (Own.below o5)
      have le5 := owns_le o5.1
      have mx5 := owns_max o5.1
      rw [← HN5.out] at HSZ
      clear h5 hn5
      obtain ⟨hn51, hn52⟩ := hn51
      have hcx1 := hcx.mono b1 (Nat.le_refl _)
      have cs5 := Own.cs o5
      have hq : (!(strOf bs).toList == (strOf bs).toList) = false := by simp
      have hq2 : (!(n5 : Int) == (n5 : Int)) = false := by simp
      have hq3 : ((n5 : Int) != (n5 : Int)) = false := by simp
      go_wp2_with (first | (at_make; refine Stop.un ?_) | (at_builtin; refine Stop.un ?_) | (with_reducible refine Stop.conv 32 9 ?_) | (with_reducible refine Stop.conv 9 32 ?_))
      refine mix_startE 15 rfl (by kernel_rfl) ?_
      intro xq hxq
      replace hF2 := Flt.mono hF2 hxq
      replace b1 := Below.next b1 hxq
      replace o5 := Own.keep o5 hxq
      replace cs5 := Cs.mono cs5 hxq (Nat.le_refl _)
      replace hcx1 := Cs.mono hcx1 hxq (Nat.le_refl _)
      clear hxq
      refine mix_quiet Keeps.ext 0 rfl (by kernel_rfl) rfl ?_
      intro ι U hne hU
      go_big_quiet_op
      clear hU hne U ι
      show wpAnyM _ _ _ _ _ _ _ _ _
      refine mix_quiet Keeps.ext 1 rfl (by kernel_rfl) rfl ?_
      intro ι U hne hU
      have hcv := fun ii => run_conv_cs (P := Try.prog) (w := U ii) Try.underlying32 Try.underlying5 Try.underlying9 (cap := c5) H5.out (Cs.mono cs5 (hU ii) (Nat.le_refl _))
      go_big_quiet_op
      clear hU hne hcv U ι
      show wpAnyM _ _ _ _ _ _ _ _ _
      refine mix_quiet Keeps.ext 2 rfl (by kernel_rfl) rfl ?_
      intro ι U hne hU
      go_big_quiet_op
      clear hU hne U ι
      show wpAnyM _ _ _ _ _ _ _ _ _
      refine mix_quiet Keeps.ext 3 rfl (by kernel_rfl) rfl ?_
      intro ι U hne hU
      go_big_quiet_op
      clear hU hne U ι
      show wpAnyM _ _ _ _ _ _ _ _ _
      refine mix_quiet Keeps.ext 4 rfl (by kernel_rfl) rfl ?_
      intro ι U hne hU
      go_big_quiet_op
      clear hU hne U ι
      show wpAnyM _ _ _ _ _ _ _ _ _
      refine mix_any 5 rfl (by kernel_rfl) rfl ?_
      go_wp2_with (first | (at_make; refine Stop.un ?_) | (at_builtin; refine Stop.un ?_) | (with_reducible refine Stop.conv 32 9 ?_) | (with_reducible refine Stop.conv 9 32 ?_))
      refine (HBR.out _ hcx1).mono ?_
      rintro e w6 ⟨a6, n6, c6, h6, rfl, o6⟩
      have hb6 := Own.below o6
      have cs6 := Own.cs o6
      have H6 := Lib.hid h6
      clear h6 o6
      go_wp2_with (first | (at_make; refine Stop.un ?_) | (at_builtin; refine Stop.un ?_) | (with_reducible refine Stop.conv 32 9 ?_) | (with_reducible refine Stop.conv 9 32 ?_))
      refine MixPost.mk hb6 ?_
      replace hF2 := Flt.mono hF2 hb6
      replace b1 := Below.next b1 hb6
      replace o5 := Own.keep o5 hb6
      replace cs5 := Cs.mono cs5 hb6 (Nat.le_refl _)
      replace hcx1 := Cs.mono hcx1 hb6 (Nat.le_refl _)
      clear hb6
      refine mix_quiet Keeps.ext 6 rfl (by kernel_rfl) rfl ?_
      intro ι U hne hU
      have hcv := fun ii => run_conv_cs (P := Try.prog) (w := U ii) Try.underlying32 Try.underlying5 Try.underlying9 (cap := c6) H6.out (Cs.mono cs6 (hU ii) (Nat.le_refl _))
      go_big_quiet_op
      clear hU hne hcv U ι
      show wpAnyM _ _ _ _ _ _ _ _ _
      refine mix_quiet Keeps.ext 7 rfl (by kernel_rfl) rfl ?_
      intro ι U hne hU
      go_big_quiet_op
      clear hU hne U ι
      show wpAnyM _ _ _ _ _ _ _ _ _
      refine mix_quiet Keeps.ext 8 rfl (by kernel_rfl) rfl ?_
      intro ι U hne hU
      go_big_quiet_op
      clear hU hne U ι
      show wpAnyM _ _ _ _ _ _ _ _ _
      refine mix_quiet Keeps.ext 9 rfl (by kernel_rfl) rfl ?_
      intro ι U hne hU
      go_big_quiet_op
      clear hU hne U ι
      show wpAnyM _ _ _ _ _ _ _ _ _
      refine mix_quiet Keeps.ext 10 rfl (by kernel_rfl) rfl ?_
      intro ι U hne hU
      go_big_quiet_op
      clear hU hne U ι
      show wpAnyM _ _ _ _ _ _ _ _ _
      refine mix_quiet Keeps.ext 11 rfl (by kernel_rfl) rfl ?_
      intro ι U hne hU
      go_big_quiet_op
      clear hU hne U ι
      show wpAnyM _ _ _ _ _ _ _ _ _
      refine mix_any 12 rfl (by kernel_rfl) rfl ?_
      go_wp2_with (first | (at_make; refine Stop.un ?_) | (at_builtin; refine Stop.un ?_) | (with_reducible refine Stop.conv 32 9 ?_) | (with_reducible refine Stop.conv 9 32 ?_))
      refine (HSZ.out _).mono ?_
      rintro e wq1 ⟨rfl, rfl⟩
      go_wp2_with (first | (at_make; refine Stop.un ?_) | (at_builtin; refine Stop.un ?_) | (with_reducible refine Stop.conv 32 9 ?_) | (with_reducible refine Stop.conv 9 32 ?_))
      refine MixPost.mk (Ext.refl _) ?_
      refine mix_quiet Keeps.ext 13 rfl (by kernel_rfl) rfl ?_
      intro ι U hne hU
      go_big_quiet_op
      clear hU hne U ι
      show wpAnyM _ _ _ _ _ _ _ _ _
      refine mix_quiet Keeps.ext 14 rfl (by kernel_rfl) rfl ?_
      intro ι U hne hU
      go_big_quiet_op
      clear hU hne U ι
      show wpAnyM _ _ _ _ _ _ _ _ _
      refine mix_end (by kernel_rfl) ?_
      clear cs6 H6 hcx1 hq hq2 hq3
      go_wp2_with (first | (at_make; refine Stop.un ?_) | (at_builtin; refine Stop.un ?_) | (with_reducible refine Stop.conv 32 9 ?_) | (with_reducible refine Stop.conv 9 32 ?_))
      refine (HF2.out _ (hc2.mono b1 (Nat.le_refl _))).mono ?_
      rintro e w8 ⟨f2, hf2, hf3, rfl, _, b8⟩
      replace hF2 := Flt.mono hF2 b8
      replace b1 := Below.next b1 b8
      replace o5 := Own.keep o5 b8
      clear b8 HF2 cs5
      have hfc2 : f2 ≤ cap2 := by omega
      go_wp2_with (first | (at_make; refine Stop.un ?_) | (at_builtin; refine Stop.un ?_) | (with_reducible refine Stop.conv 32 9 ?_) | (with_reducible refine Stop.conv 9 32 ?_))
      generalize hwz : wr = wz at o5 hgw
      clear hwz
      go_loopw [17, 87] (fun _ i wr => ∃ u : Nat, u ≤ f2 ∧ i = .int .i64 (u : Int) ∧ Below w.heap.size w wr ∧ Flt wr g b M E bs ∧ OwnB wz wr (.slice a5 n5 c5) n5 bs) (fun _ i _ => f2 - (intOf i).toNat)
      case atStart => exact ⟨0, by omega, rfl, b1, hF2, o5⟩
      case round =>
        clear b1 hF2 o5
        obtain ⟨u, hu, rfl, b1, hF2, o5⟩ := hrel
        by_cases hlt : u < f2
        ·
          have hul : u < l2.length := by have := HM2.out; omega
          obtain ⟨q, o, rfl⟩ := hc2.addr (by rw [vcells_length]; omega)
          obtain ⟨x0, x1, x2⟩ := (hc2.mono b1 (Nat.le_refl _)).vat hul
          have hv := HOK2.out l2[u] (List.getElem_mem _)
          generalize l2[u] = v at x0 x1 x2 hv
          have H1 := Lib.hid (fun w hF => HMX.out v hv w hF)
          have H2 := Lib.hid (fun w hc => HRX.out v hv a5 n5 c5 w hc H5.out le5 mx5)
          generalize mayB bs v M E = r at H1 H2
          obtain ⟨k, n, s⟩ := v
          simp only [V.val] at H1 H2 x0 x1 x2
          have hr : (r != r) = false := by simp
          have hr2 : (!r == r) = false := by cases r <;> rfl
          clear hul hv
          have zr := At.new wr #[.int .u8 k, .int .i64 n, .string s] 30
          have bz := (Below.refl wr.heap.size wr).alloc (Nat.le_refl _) (.cells #[.int .u8 k, .int .i64 n, .string s] 30)
          go_wp2_with (first | (at_make; refine Stop.un ?_) | (at_builtin; refine Stop.un ?_) | (with_reducible refine Stop.conv 32 9 ?_) | (with_reducible refine Stop.conv 9 32 ?_))
          replace hF2 := Flt.mono hF2 bz
          replace b1 := Below.next b1 bz
          replace o5 := Own.keep o5 bz
          clear bz x0 x1 x2
          have cs5 := Own.cs o5
          refine mix_startE 9 rfl (by kernel_rfl) ?_
          intro xq hxq
          replace hF2 := Flt.mono hF2 hxq
          replace b1 := Below.next b1 hxq
          replace o5 := Own.keep o5 hxq
          replace zr := At.mono zr hxq
          replace cs5 := Cs.mono cs5 hxq (Nat.le_refl _)
          clear hxq
          refine mix_quiet Keeps.ext 0 rfl (by kernel_rfl) rfl ?_
          intro ι U hne hU
          go_big_quiet_op
          clear hU hne U ι
          show wpAnyM _ _ _ _ _ _ _ _ _
          refine mix_quiet Keeps.ext 1 rfl (by kernel_rfl) rfl ?_
          intro ι U hne hU
          have hcw0 := fun ii => (At.mono zr (hU ii)).cell 0 rfl
          have hcw1 := fun ii => (At.mono zr (hU ii)).cell 1 rfl
          have hcw2 := fun ii => (At.mono zr (hU ii)).cell 2 rfl
          go_big_quiet_op
          clear hU hne hcw0 hcw1 hcw2 U ι
          show wpAnyM _ _ _ _ _ _ _ _ _
          refine mix_quiet Keeps.ext 3 rfl (by kernel_rfl) rfl ?_
          intro ι U hne hU
          go_big_quiet_op
          clear hU hne U ι
          show wpAnyM _ _ _ _ _ _ _ _ _
          refine mix_quiet Keeps.ext 4 rfl (by kernel_rfl) rfl ?_
          intro ι U hne hU
          have hcw0 := fun ii => (At.mono zr (hU ii)).cell 0 rfl
          have hcw1 := fun ii => (At.mono zr (hU ii)).cell 1 rfl
          have hcw2 := fun ii => (At.mono zr (hU ii)).cell 2 rfl
          go_big_quiet_op
          clear hU hne hcw0 hcw1 hcw2 U ι
          show wpAnyM _ _ _ _ _ _ _ _ _
          refine mix_quiet Keeps.ext 5 rfl (by kernel_rfl) rfl ?_
          intro ι U hne hU
          go_big_quiet_op
          clear hU hne U ι
          show wpAnyM _ _ _ _ _ _ _ _ _
          refine mix_quiet Keeps.ext 6 rfl (by kernel_rfl) rfl ?_
          intro ι U hne hU
          go_big_quiet_op
          clear hU hne U ι
          show wpAnyM _ _ _ _ _ _ _ _ _
          refine mix_any 2 rfl (by kernel_rfl) rfl ?_
          go_wp2_with (first | (at_make; refine Stop.un ?_) | (at_builtin; refine Stop.un ?_) | (with_reducible refine Stop.conv 32 9 ?_) | (with_reducible refine Stop.conv 9 32 ?_))
          refine (H1.out _ hF2).mono ?_
          rintro e wq2 ⟨rfl, bq2⟩
          go_wp2_with (first | (at_make; refine Stop.un ?_) | (at_builtin; refine Stop.un ?_) | (with_reducible refine Stop.conv 32 9 ?_) | (with_reducible refine Stop.conv 9 32 ?_))
          refine MixPost.mk bq2 ?_
          replace hF2 := Flt.mono hF2 bq2
          replace b1 := Below.next b1 bq2
          replace o5 := Own.keep o5 bq2
          replace zr := At.mono zr bq2
          replace cs5 := Cs.mono cs5 bq2 (Nat.le_refl _)
          clear bq2
          refine mix_any 7 rfl (by kernel_rfl) rfl ?_
          go_wp2_with (first | (at_make; refine Stop.un ?_) | (at_builtin; refine Stop.un ?_) | (with_reducible refine Stop.conv 32 9 ?_) | (with_reducible refine Stop.conv 9 32 ?_))
          refine (H2.out _ cs5).mono ?_
          rintro e wq3 ⟨rfl, bq3⟩
          go_wp2_with (first | (at_make; refine Stop.un ?_) | (at_builtin; refine Stop.un ?_) | (with_reducible refine Stop.conv 32 9 ?_) | (with_reducible refine Stop.conv 9 32 ?_))
          refine MixPost.mk bq3 ?_
          replace hF2 := Flt.mono hF2 bq3
          replace b1 := Below.next b1 bq3
          replace o5 := Own.keep o5 bq3
          replace zr := At.mono zr bq3
          replace cs5 := Cs.mono cs5 bq3 (Nat.le_refl _)
          clear bq3
          refine mix_quiet Keeps.ext 8 rfl (by kernel_rfl) rfl ?_
          intro ι U hne hU
          go_big_quiet_op
          clear hU hne U ι
          show wpAnyM _ _ _ _ _ _ _ _ _
          refine mix_end (by kernel_rfl) ?_
          go_wp2_with (first | (at_make; refine Stop.un ?_) | (at_builtin; refine Stop.un ?_) | (with_reducible refine Stop.conv 32 9 ?_) | (with_reducible refine Stop.conv 9 32 ?_))
          go_roundw
          case rel => exact ⟨u + 1, by omega, by go_num, b1, hF2, o5⟩
          case measure => simp [intOf]; omega
        ·
          have hun : u = f2 := by omega
          subst hun
          obtain ⟨g5, rfl, hg5, _⟩ := Own.at o5 (by omega)
          have hg5a : g ≠ g5 := by omega
          have hg5b : b ≠ g5 := by omega
          have hw5 : w.heap.size ≤ g5 := by omega
          go_wp2_with (first | (at_make; refine Stop.un ?_) | (at_builtin; refine Stop.un ?_) | (with_reducible refine Stop.conv 32 9 ?_) | (with_reducible refine Stop.conv 9 32 ?_))
          go_loopw [18, 103] (fun _ i wr => ∃ (p : Nat) (xs : List Value), p ≤ n5 ∧ i = .int .i64 (p : Int) ∧ Below w.heap.size w wr ∧ Flt wr g b M E bs ∧ Own wz wr 5 1 (.slice (some ⟨g5, 0, none⟩) n5 c5) n5 xs) (fun _ i _ => n5 - (intOf i).toNat)
          case atStart => exact ⟨0, _, by omega, rfl, b1, hF2, o5⟩
          case round =>
            clear b1 hF2 o5
            obtain ⟨p, xs, hp, rfl, b1, hF2, o5⟩ := hrel
            by_cases hlt : p < n5
            ·
              have hxl := Own.length o5
              have hpx : p < xs.length := by omega
              have x0 := o5.1.cellAt p (by omega)
              rw [List.getElem?_eq_getElem hpx] at x0
              generalize xs[p] = old at x0
              have f0 := o5.1.frozenAt p
              clear hxl hpx
              go_wp2_with (first | (at_make; refine Stop.un ?_) | (at_builtin; refine Stop.un ?_) | (with_reducible refine Stop.conv 32 9 ?_) | (with_reducible refine Stop.conv 9 32 ?_))
              have o6 := Own.stored o5 p (.int .u8 0)
              have hF3 := hF2.off ⟨g5, p, none⟩ (.int .u8 0) hg5a hg5b
              have b2 := b1.setCell (p := ⟨g5, p, none⟩) hw5 (.int .u8 0)
              clear o5 hF2 b1 x0 f0
              go_roundw
              case rel => exact ⟨p + 1, _, by omega, by go_num, b2, hF3, o6⟩
              case measure => simp [intOf]; omega
            ·
              have hcx1 := hcx.mono b1 (Nat.le_refl _)
              have hq : ((strOf bs).toList == (strOf bs).toList) = true := by simp
              clear o5
              go_wp2_with (first | (at_make; refine Stop.un ?_) | (at_builtin; refine Stop.un ?_) | (with_reducible refine Stop.conv 32 9 ?_) | (with_reducible refine Stop.conv 9 32 ?_))
              refine mix_startE 13 rfl (by kernel_rfl) ?_
              intro xq hxq
              replace hF2 := Flt.mono hF2 hxq
              replace b1 := Below.next b1 hxq
              replace hcx1 := Cs.mono hcx1 hxq (Nat.le_refl _)
              clear hxq
              refine mix_quiet Keeps.ext 0 rfl (by kernel_rfl) rfl ?_
              intro ι U hne hU
              go_big_quiet_op
              clear hU hne U ι
              show wpAnyM _ _ _ _ _ _ _ _ _
              refine mix_quiet Keeps.ext 1 rfl (by kernel_rfl) rfl ?_
              intro ι U hne hU
              go_big_quiet_op
              clear hU hne U ι
              show wpAnyM _ _ _ _ _ _ _ _ _
              refine mix_quiet Keeps.ext 2 rfl (by kernel_rfl) rfl ?_
              intro ι U hne hU
              go_big_quiet_op
              clear hU hne U ι
              show wpAnyM _ _ _ _ _ _ _ _ _
              refine mix_quiet Keeps.ext 5 rfl (by kernel_rfl) rfl ?_
              intro ι U hne hU
              go_big_quiet_op
              clear hU hne U ι
              show wpAnyM _ _ _ _ _ _ _ _ _
              refine mix_quiet Keeps.ext 6 rfl (by kernel_rfl) rfl ?_
              intro ι U hne hU
              go_big_quiet_op
              clear hU hne U ι
              show wpAnyM _ _ _ _ _ _ _ _ _
              refine mix_quiet Keeps.ext 7 rfl (by kernel_rfl) rfl ?_
              intro ι U hne hU
              go_big_quiet_op
              clear hU hne U ι
              show wpAnyM _ _ _ _ _ _ _ _ _
              refine mix_any 3 rfl (by kernel_rfl) rfl ?_
              go_wp2_with (first | (at_make; refine Stop.un ?_) | (at_builtin; refine Stop.un ?_) | (with_reducible refine Stop.conv 32 9 ?_) | (with_reducible refine Stop.conv 9 32 ?_))
              refine (HB1.out _ hF2).mono ?_
              rintro e w9 ⟨a9, n9, c9, h9, rfl, o9⟩
              have hb9 := Own.below o9
              have cs9 := Own.cs o9
              have H9 := Lib.hid h9
              clear h9 o9
              go_wp2_with (first | (at_make; refine Stop.un ?_) | (at_builtin; refine Stop.un ?_) | (with_reducible refine Stop.conv 32 9 ?_) | (with_reducible refine Stop.conv 9 32 ?_))
              refine MixPost.mk hb9 ?_
              replace hF2 := Flt.mono hF2 hb9
              replace b1 := Below.next b1 hb9
              replace hcx1 := Cs.mono hcx1 hb9 (Nat.le_refl _)
              clear hb9
              refine mix_quiet Keeps.ext 4 rfl (by kernel_rfl) rfl ?_
              intro ι U hne hU
              have hcv := fun ii => run_conv_cs (P := Try.prog) (w := U ii) Try.underlying32 Try.underlying5 Try.underlying9 (cap := c9) H9.out (Cs.mono cs9 (hU ii) (Nat.le_refl _))
              go_big_quiet_op
              clear hU hne hcv U ι
              show wpAnyM _ _ _ _ _ _ _ _ _
              refine mix_any 8 rfl (by kernel_rfl) rfl ?_
              go_wp2_with (first | (at_make; refine Stop.un ?_) | (at_builtin; refine Stop.un ?_) | (with_reducible refine Stop.conv 32 9 ?_) | (with_reducible refine Stop.conv 9 32 ?_))
              refine (HBR.out _ hcx1).mono ?_
              rintro e w10 ⟨a10, n10, c10, h10, rfl, o10⟩
              have hb10 := Own.below o10
              have cs10 := Own.cs o10
              have H10 := Lib.hid h10
              clear h10 o10
              go_wp2_with (first | (at_make; refine Stop.un ?_) | (at_builtin; refine Stop.un ?_) | (with_reducible refine Stop.conv 32 9 ?_) | (with_reducible refine Stop.conv 9 32 ?_))
              refine MixPost.mk hb10 ?_
              replace hF2 := Flt.mono hF2 hb10
              replace b1 := Below.next b1 hb10
              replace hcx1 := Cs.mono hcx1 hb10 (Nat.le_refl _)
              replace cs9 := Cs.mono cs9 hb10 (Nat.le_refl _)
              clear hb10
              refine mix_quiet Keeps.ext 9 rfl (by kernel_rfl) rfl ?_
              intro ι U hne hU
              have hcv := fun ii => run_conv_cs (P := Try.prog) (w := U ii) Try.underlying32 Try.underlying5 Try.underlying9 (cap := c10) H10.out (Cs.mono cs10 (hU ii) (Nat.le_refl _))
              go_big_quiet_op
              clear hU hne hcv U ι
              show wpAnyM _ _ _ _ _ _ _ _ _
              refine mix_quiet Keeps.ext 10 rfl (by kernel_rfl) rfl ?_
              intro ι U hne hU
              go_big_quiet_op
              clear hU hne U ι
              show wpAnyM _ _ _ _ _ _ _ _ _
              refine mix_quiet Keeps.ext 11 rfl (by kernel_rfl) rfl ?_
              intro ι U hne hU
              go_big_quiet_op
              clear hU hne U ι
              show wpAnyM _ _ _ _ _ _ _ _ _
              refine mix_quiet Keeps.ext 12 rfl (by kernel_rfl) rfl ?_
              intro ι U hne hU
              go_big_quiet_op
              clear hU hne U ι
              show wpAnyM _ _ _ _ _ _ _ _ _
              refine mix_end (by kernel_rfl) ?_
              go_wp2_with (first | (at_make; refine Stop.un ?_) | (at_builtin; refine Stop.un ?_) | (with_reducible refine Stop.conv 32 9 ?_) | (with_reducible refine Stop.conv 9 32 ?_))
              go_ret
              exact ⟨rfl, b1⟩
end Go.Proofs.Ytfakpmikflaofaa
